/-
Own text, put together by an own program (shake.py) out of this claim's texts: what its theorem needs of them.
-/
import Derived.Test.YtbonlagecjealaaA13
namespace Go.Eng
open Go.Proofs Go.RowKit Go.Proofs.YtbonlagecjealaaW.PrintWords
set_option linter.unusedVariables false
set_option linter.unusedSimpArgs false
def okB (T S C H K V L : Int) (l : List Int) (lev : Int) : Bool := r7 T S C H K V L && decide ((l.length : Int) = lenI T S C H) && decide (0 ≤ lev) && decide (lev < H) && l.all fun x => decide (0 ≤ x)
theorem okB_iff {T S C H K V L : Int} {l : List Int} {lev : Int} : okB T S C H K V L l lev = true ↔ R7 T S C H K V L ∧ (l.length : Int) = lenI T S C H ∧ 0 ≤ lev ∧ lev < H ∧ ∀ x ∈ l, 0 ≤ x := by
  unfold okB
  simp only [Bool.and_eq_true, decide_eq_true_eq, r7_iff, List.all_eq_true]
  exact ⟨fun ⟨⟨⟨⟨a, b⟩, c⟩, d⟩, e⟩ => ⟨a, b, c, d, e⟩, fun ⟨a, b, c, d, e⟩ => ⟨⟨⟨⟨a, b⟩, c⟩, d⟩, e⟩⟩
def nmF (T S C H K V L : Int) (l : List Int) (x : Int) : Bool := (shape_words_names.f T S C H K V L l x).getD false
def plF (x : Int) : Int := (handle_Plain.f x).getD 0
def atF (T S C H K V L : Int) (l : List Int) (i f : Int) : Int := (shape_words_at.f T S C H K V L l i f).getD 0
def lvlF (T S C H K V L : Int) (l : List Int) (lev : Int) : List (Int × Int) := ylF C (nmF T S C H K V L l) plF (fun x => atF T S C H K V L l (x % 4294967296) (IntKind.wrap .i64 (6 + lev))) (C.toNat + 1) 0 (atF T S C H K V L l 0 (IntKind.wrap .i64 (6 + lev)))
section
variable {T S C H K V L : Int} {l : List Int}
theorem at_some (hr : R7 T S C H K V L) (hl : (l.length : Int) = lenI T S C H) {i f : Int} (hf : isF C H i f = true) : shape_words_at.f T S C H K V L l i f = some (rd l (cellI T S H i f)) := by
  obtain ⟨h1, h2, h3, h4⟩ := isF_iff.1 hf
  have hc := cells hr h1 h2 h3 h4
  unfold shape_words_at.f
  rw [plan_Cell_is, r7_iff.2 hr, hf]
  simp only [Bool.and_self, if_true, Option.bind_some]
  rw [if_pos hc.1, if_pos (by rw [hl]; exact hc.2.1)]
theorem at_eq (hr : R7 T S C H K V L) (hl : (l.length : Int) = lenI T S C H) {i f : Int} (hf : isF C H i f = true) : shape_words_at.f T S C H K V L l i f = some (atF T S C H K V L l i f) := by
  unfold atF
  rw [at_some hr hl hf]
  rfl
theorem plain_eq (x : Int) : handle_Plain.f x = some (plF x) := rfl
theorem names_eq (x : Int) : shape_words_names.f T S C H K V L l x = some (nmF T S C H K V L l x) := by
  unfold nmF shape_words_names.f handle_Valid.f
  simp only [Option.bind_some]
  split
  · split <;> rfl
  · rfl
theorem names_ix {x : Int} (h : nmF T S C H K V L l x = true) : 1 ≤ x % 4294967296 ∧ x % 4294967296 ≤ C := by
  unfold nmF shape_words_names.f handle_Valid.f at h
  simp only [Option.bind_some] at h
  split at h
  · split at h
    · rename_i h1
      simp only [Option.bind_some, Option.getD_some, decide_eq_true_eq] at h
      exact ⟨h1, h⟩
    · simp at h
  · simp at h
theorem isF_lev {i lev : Int} (hr : R7 T S C H K V L) (h0 : 0 ≤ i) (h1 : i ≤ C) (h2 : 0 ≤ lev) (h3 : lev < H) : isF C H i (IntKind.wrap .i64 (6 + lev)) = true := by
  have := hr.h
  rw [wi64 (by omega) (by omega)]
  exact isF_iff.2 ⟨h0, h1, by omega, by omega⟩
theorem ylF_len (nm : Int → Bool) (pl nx : Int → Int) : ∀ (m : Nat) (j x : Int), (ylF C nm pl nx m j x).length ≤ m
  | 0, _, _ => Nat.le_refl _
  | m + 1, j, x => by
    unfold ylF
    split
    · split
      · rw [List.length_cons]; exact Nat.succ_le_succ (ylF_len nm pl nx m _ _)
      · simp
    · simp
theorem lvl_len {lev : Int} (h : okB T S C H K V L l lev = true) : (lvlF T S C H K V L l lev).length ≤ 65 := by
  have h1 := (okB_iff.1 h).1.c
  have h2 := ylF_len (C := C) (nmF T S C H K V L l) plF (fun x => atF T S C H K V L l (x % 4294967296) (IntKind.wrap .i64 (6 + lev))) (C.toNat + 1) 0 (atF T S C H K V L l 0 (IntKind.wrap .i64 (6 + lev)))
  unfold lvlF
  omega
theorem lvl_stops (n : Nat) (hn : 1 ≤ n) (bw bk : Nat) (G : List Nat) (T S C H K V L : Int) (A : Option Addr) (c : Nat) (l : List Int) (lev : Int) (hok : okB T S C H K V L l lev = true) (w : World) (hBw : w.heap[bw]? = some (.cells #[.int .i64 T, .int .i64 S, .int .i64 C, .int .i64 H, .int .i64 K, .int .i64 V, .int .i64 L, .slice A l.length c] 63 (0, 0))) (hBk : w.heap[bk]? = some (.cells #[.int .i64 lev] 3 (0, 0))) (hwg : bw ∉ G) (hkg : bk ∉ G) (hC : Stab G w (KC (Kd.int .u64) A c l)) :
    SeqStopsK Fence.wide n Try.prog 57 #[.pointer (some ⟨bw, 0, none⟩), .pointer (some ⟨bk, 0, none⟩)] (fun x : {p : Int × Int // p ∈ lvlF T S C H K V L l lev} => #[Value.int .i64 x.1.1, Value.int .u64 x.1.2]) (KG w.heap.size G) (fun ys => ys = (lvlF T S C H K V L l lev).attach) (fun pre => pre <+: (lvlF T S C H K V L l lev).attach) (lvlF T S C H K V L l lev).length w := by
  obtain ⟨hr, hl, h0, h1, _⟩ := okB_iff.1 hok
  have hc := hr.c
  exact level1_stops n hn bw bk G T S C H K V L A c l lev _ _ _ _ (C.toNat + 1) (by omega) (by omega) (at_eq hr hl (isF_lev hr (Int.le_refl _) (by omega) h0 h1)) names_eq plain_eq (fun x hx => at_eq hr hl (isF_lev hr (by have := names_ix hx; omega) (names_ix hx).2 h0 h1)) w hBw hBk hwg hkg hC
end
end Go.Eng
namespace Go.Eng
open Go.Proofs Go.RowKit Go.Proofs.YtbonlagecjealaaW.PrintWords Go.Proofs.Ytbonlagecjealaa.GSeq
set_option linter.unusedVariables false
set_option linter.unusedSimpArgs false
set_option maxRecDepth 100000 in
set_option maxHeartbeats 4000000 in
theorem level_con (T S C H K V L : Int) (A : Option Addr) (n_ c : Nat) (lev : Int) (w0 : World) (Hs : List Nat) : Con Try.prog 26 #[.agg #[.int .i64 T, .int .i64 S, .int .i64 C, .int .i64 H, .int .i64 K, .int .i64 V, .int .i64 L, .slice A n_ c], .int .i64 lev] w0 Hs [] (fun X => ∀ bw bk, X (.func (.func 57) #[] #[.pointer (some ⟨bw, 0, none⟩), .pointer (some ⟨bk, 0, none⟩)]) [.b bw (.cells #[.int .i64 T, .int .i64 S, .int .i64 C, .int .i64 H, .int .i64 K, .int .i64 V, .int .i64 L, .slice A n_ c] 63 (0, 0)), .b bk (.cells #[.int .i64 lev] 3 (0, 0))]) := by
  refine con_enter (c := bodyOf Try.f26) Try.func26 rfl (m := 6) rfl rfl rfl ?_
  intro X hX _
  refine c_seq rfl ?_
  refine r_ord (l := [0, 1, 2]) rfl (by kernel_rfl) (by kernel_rfl) ?_
  refine s_e rfl rfl (e_box rfl rfl rfl rfl) ?_
  intro b3_
  refine s_e rfl rfl (e_box rfl rfl rfl rfl) ?_
  intro b4_
  refine s_v rfl rfl rfl rfl (v_assign rfl rfl) ?_
  refine s_end ?_
  refine q_seq ?_
  refine c_seq rfl ?_
  refine r_ord (l := [0, 1]) rfl (by kernel_rfl) (by kernel_rfl) ?_
  refine s_v rfl rfl rfl rfl (v_mf rfl rfl rfl) ?_
  refine s_v rfl rfl rfl rfl (v_assign rfl rfl) ?_
  refine s_end ?_
  refine q_seq ?_
  refine c_ret rfl ?_
  exact q_ret (vs := [.func (.func 57) #[] #[.pointer (some ⟨b3_, 0, none⟩), .pointer (some ⟨b4_, 0, none⟩)]]) rfl (.tmp rfl .nil) [1, 0] rfl (by decide) (hX b3_ b4_)
def shape_Level.b0 (k : Nat) (κ_ : (List Int) → Option (List Int)) (x35_ x36_ : Int) (st_ : (List Int)) : Option (List Int) := match st_ with | xs43_ => (if xs43_.length < 17592186044416 then κ_ (xs43_ ++ [x36_]) else none)
def shape_Level.f (k : Nat) (a0_0 : Int) (a0_1 : Int) (a0_2 : Int) (a0_3 : Int) (a0_4 : Int) (a0_5 : Int) (a0_6 : Int) (l1 : List Int) (a2 : Int) : Option (List Int) := ((shape_words_whole.f a0_0 a0_1 a0_2 a0_3 a0_4 a0_5 a0_6 l1).bind fun t56_ => (if t56_ = true then (if (a2 : Int) < 0 then some true else some (decide ((a2 : Int) ≥ a0_3))) else some true) : Option Bool).bind fun j24_ => (if j24_ = true then some ([] : List Int) else (if okB a0_0 a0_1 a0_2 a0_3 a0_4 a0_5 a0_6 l1 a2 = true then (if 1000 ≤ k then (rng (shape_Level.b0 k) (lvlF a0_0 a0_1 a0_2 a0_3 a0_4 a0_5 a0_6 l1 a2) (fun xs43_ => some xs43_) ([] : List Int)) else none) else none))
theorem shape_Level_tot0 (k : Nat) {T S C H K V L lev : Int} {l : List Int} (hfu : 1000 ≤ k) (hok : okB T S C H K V L l lev = true) (r : List Int) : ∀ x ∈ lvlF T S C H K V L l lev, ∀ s : List Int, s.length < 1000 → ∃ r', shape_Level.b0 k (fun _ => some r) x.1 x.2 s = some r' := by
  intro x hx s hs
  exact ⟨r, by unfold shape_Level.b0; exact if_pos (by omega)⟩
set_option maxRecDepth 100000 in
set_option maxHeartbeats 4000000 in
theorem shape_Level_con (k : Nat) (a0_0 : Int) (a0_1 : Int) (a0_2 : Int) (a0_3 : Int) (a0_4 : Int) (a0_5 : Int) (a0_6 : Int) (A1 : Option Addr) (c1 : Nat) (l1 : List Int) (a2 : Int) (r0 : List Int) (h : shape_Level.f k a0_0 a0_1 a0_2 a0_3 a0_4 a0_5 a0_6 l1 a2 = some r0) (w0 : World) (Hs : List Nat) : Con Try.prog 9 #[.agg #[.int .i64 a0_0, .int .i64 a0_1, .int .i64 a0_2, .int .i64 a0_3, .int .i64 a0_4, .int .i64 a0_5, .int .i64 a0_6], .slice A1 l1.length c1, .int .i64 a2] w0 Hs [.f (KC (Kd.int .u64) A1 c1 l1)] (fun X => ∀ A_r0 c_r0, X (.slice A_r0 r0.length c_r0) [.f (KC (Kd.int .u64) A_r0 c_r0 r0)]) := by
 refine con_enterM (c := bodyOf Try.f9) (k := 9) Try.func9 rfl (m := 37) rfl rfl rfl ?_
 intro X hX _
 have H := h
 unfold shape_Level.f at H
 clear h
 refine c_seq rfl ?_
 refine r_ord (l := [0, 1]) rfl (by kernel_rfl) (by kernel_rfl) ?_
 refine s_e rfl rfl (e_box rfl rfl rfl rfl) ?_
 intro b2_
 refine s_v rfl rfl rfl rfl (v_assign rfl rfl) ?_
 refine s_end ?_
 refine q_seq ?_
 refine c_seq rfl ?_
 refine r_ord (l := [0, 1, 2, 3, 4]) rfl (by kernel_rfl) (by kernel_rfl) ?_
 refine s_v rfl rfl rfl rfl (v_ldA [.int .i64 a0_0, .int .i64 a0_1, .int .i64 a0_2, .int .i64 a0_3, .int .i64 a0_4, .int .i64 a0_5, .int .i64 a0_6] 0 rfl Try.underlying23 rfl SZ23 rfl rfl rfl rfl) ?_
 refine s_v rfl rfl rfl rfl (v_move rfl rfl) ?_
 refine s_v rfl rfl rfl rfl (v_build (places := #[(0, 7), (7, 1)]) #[.int .i64 a0_0, .int .i64 a0_1, .int .i64 a0_2, .int .i64 a0_3, .int .i64 a0_4, .int .i64 a0_5, .int .i64 a0_6, .slice A1 l1.length c1] rfl ZR63 Try.underlying63 (by kernel_rfl) rfl (by kernel_rfl)) ?_
 refine s_e rfl rfl (e_alloc rfl rfl rfl ZR63) ?_
 intro b4_
 refine s_e rfl rfl (e_stA 0 rfl rfl SZ63 rfl rfl rfl rfl rfl rfl) ?_
 refine s_end ?_
 refine q_seq ?_
 refine c_seq rfl ?_
 obtain ⟨j24_, e25_, H⟩ := bind_s H
 refine c_join (β := Unit) (fun _ => True) (fun _ => [(2, .int .i64 a2), (6, .slice none 0 0), (7, .pointer (some ⟨b4_, 0, none⟩)), (26, .bool j24_)]) (fun _ => [.b b4_ (.cells #[.int .i64 a0_0, .int .i64 a0_1, .int .i64 a0_2, .int .i64 a0_3, .int .i64 a0_4, .int .i64 a0_5, .int .i64 a0_6, .slice A1 l1.length c1] 63 (0, 0)), .b b2_ (.cells #[.int .i64 a0_0, .int .i64 a0_1, .int .i64 a0_2, .int .i64 a0_3, .int .i64 a0_4, .int .i64 a0_5, .int .i64 a0_6] 23 (0, 0)), .f (KC (Kd.int .u64) A1 c1 l1)]) rfl (fun _ _ => ?_) (fun J_ => ?_)
 rcases Bool.eq_false_or_eq_true j24_ with h26_ | h26_
 subst h26_
 replace H := ite_y rfl H
 refine c_cond1 rfl rfl ?_
 refine c_seq rfl ?_
 refine r_ord (l := [0]) rfl (by kernel_rfl) (by kernel_rfl) ?_
 refine s_v rfl rfl rfl rfl (v_assign rfl rfl) ?_
 refine s_end ?_
 refine q_seq ?_
 refine c_ret rfl ?_
 refine q_then_ret ?_
 refine q_know (KC_nil (Kd.int .u64)) ?_
 have e_ := Option.some.inj H
 subst e_
 exact q_retM (vs := [.slice none 0 0]) (.inl rfl) rfl (.tmp rfl .nil) [0] rfl (by decide) (hX none 0)
 subst h26_
 replace H := ite_n (by decide) H
 refine c_cond0 rfl rfl ?_
 refine c_skip rfl ?_
 refine q_seq ?_
 refine c_seq rfl ?_
 refine r_ord (l := [0]) rfl (by kernel_rfl) (by kernel_rfl) ?_
 refine s_e rfl rfl (e_alloc rfl rfl rfl ZR24) ?_
 intro b28_
 refine s_end ?_
 refine q_seq ?_
 refine c_seq rfl ?_
 refine c_seq rfl ?_
 refine r_ord (l := [0, 1, 2]) rfl (by kernel_rfl) (by kernel_rfl) ?_
 refine s_v rfl rfl rfl rfl (v_ldA [.int .i64 a0_0, .int .i64 a0_1, .int .i64 a0_2, .int .i64 a0_3, .int .i64 a0_4, .int .i64 a0_5, .int .i64 a0_6, .slice A1 l1.length c1] 1 rfl Try.underlying63 rfl SZ63 rfl rfl rfl rfl) ?_
 refine s_v rfl rfl rfl rfl (v_move rfl rfl) ?_
 refine s_e rfl rfl (e_callF [] #[.agg #[.int .i64 a0_0, .int .i64 a0_1, .int .i64 a0_2, .int .i64 a0_3, .int .i64 a0_4, .int .i64 a0_5, .int .i64 a0_6, .slice A1 l1.length c1], .int .i64 a2] rfl rfl rfl rfl rfl Try.func26 rfl (by decide) rfl rfl rfl rfl (fun w ht => level_con a0_0 a0_1 a0_2 a0_3 a0_4 a0_5 a0_6 A1 l1.length c1 a2 w _)) ?_
 intro b31_ b32_
 refine s_end ?_
 refine q_seq ?_
 refine c_block rfl ?_
 obtain ⟨n33_, H⟩ := ite_no H
 obtain ⟨n34_, H⟩ := ite_no H
 refine c_knowT (φ := fun _ => True) (fun _ => trivial) ?_
 obtain ⟨κ_, hκ_, H⟩ := rng_intro H
 refine c_rangeD (N := (lvlF a0_0 a0_1 a0_2 a0_3 a0_4 a0_5 a0_6 l1 a2).length) (S := fun ys => ys = (lvlF a0_0 a0_1 a0_2 a0_3 a0_4 a0_5 a0_6 l1 a2).attach) (Sp := fun pre => pre <+: (lvlF a0_0 a0_1 a0_2 a0_3 a0_4 a0_5 a0_6 l1 a2).attach) (fun x : {p : Int × Int // p ∈ (lvlF a0_0 a0_1 a0_2 a0_3 a0_4 a0_5 a0_6 l1 a2)} => #[Value.int .i64 x.1.1, Value.int .u64 x.1.2]) (gf := 57) (lb := [.pointer (some ⟨b31_, 0, none⟩), .pointer (some ⟨b32_, 0, none⟩)]) (ps := #[30, 31]) [3, 0] [1, 2, 4, 5, 6] (fun pre (s_ : Ro × (List Int)) => match s_ with | (ro42_, xs43_) => ORow 1 (fun x => [.int .u64 x]) ro42_ xs43_ ∧ xs43_.length = pre.length ∧ (pre <+: (lvlF a0_0 a0_1 a0_2 a0_3 a0_4 a0_5 a0_6 l1 a2).attach → rng (shape_Level.b0 k) ((lvlF a0_0 a0_1 a0_2 a0_3 a0_4 a0_5 a0_6 l1 a2).drop pre.length) κ_ xs43_ = some r0)) (fun _ _ _ => False) (fun s_ : Ro × (List Int) => match s_ with | (ro42_, xs43_) => [.b b28_ (.cells #[.slice (OA ro42_) xs43_.length (OC ro42_)] 24 (0, 0)), OE 25 ro42_]) (fun x => [(10, .int .u64 x.1.2), (31, .int .u64 x.1.2), (30, .int .i64 x.1.1)]) (none, ([] : List Int)) rfl rfl rfl (fun _ => rfl) (by decide) Try.func57 rfl (by decide) rfl rfl (by decide) ?_ ⟨ORow.nil, rfl, fun _ => H⟩ rfl ?_ ?_ ?_ ?_ ?_
 rintro ⟨ro42_, xs43_⟩ e he
 simp only [List.mem_cons, List.not_mem_nil, or_false] at he
 rcases he with rfl | rfl
 exact .inl ⟨_, _, _, rfl⟩
 rcases ro42_ with _ | ⟨g_, cap_, cur_⟩
 exact .inr rfl
 exact .inl ⟨_, _, _, rfl⟩
 intro w ht
 refine lvl_stops _ (by decide) b31_ b32_ _ a0_0 a0_1 a0_2 a0_3 a0_4 a0_5 a0_6 A1 c1 l1 a2 n33_ w (ht.at_ _ _ (List.mem_of_getElem? (i := 1) rfl)) (ht.at_ _ _ (List.mem_of_getElem? (i := 2) rfl)) ?_ ?_ ((ht.facts _ (List.mem_of_getElem? (i := 6) rfl)).mono ?_)
 exact tri_disj ht (i := 1) rfl (idx := [3, 0]) rfl (by decide)
 exact tri_disj ht (i := 2) rfl (idx := [3, 0]) rfl (by decide)
 exact fun x hx _ => List.mem_append_right _ (pick_ids (idx := [3, 0]) rfl x hx)
 rintro lv_ ⟨⟨x35_, x36_⟩, hx_⟩ a_ W_ K_ hf_ hk_
 refine assign_one (F1 := [(10, .int .u64 x36_), (31, .int .u64 x36_), (30, .int .i64 x35_)] ++ _) (fr_params2 hf_ rfl rfl) hk_ ?_
 refine r_ord (l := [0]) rfl (by kernel_rfl) (by kernel_rfl) ?_
 refine s_v rfl rfl rfl rfl (v_assign rfl rfl) ?_
 refine s_end ?_
 exact q_assigned (fun _ _ h => h)
 rintro lv_ pre_ ⟨⟨x35_, x36_⟩, hx_⟩ ⟨ro42_, xs43_⟩ W_ hI_ hlen_
 obtain ⟨hr44_, hl_xs43_, hI_⟩ := hI_
 clear H
 obtain ⟨κ2_, r2_, H, hk_, hr_⟩ := rng_step (shape_Level_tot0 k n34_ n33_ r0) pre_ ⟨(x35_, x36_), hx_⟩ xs43_ (by have := lvl_len n33_; omega) hI_
 unfold shape_Level.b0 at H
 refine c_block rfl ?_
 refine r_ord (l := [0, 1, 2, 3, 4]) rfl (by kernel_rfl) (by kernel_rfl) ?_
 refine s_v rfl rfl rfl rfl (v_ld 0 rfl Try.underlying24 rfl rfl rfl rfl) ?_
 refine s_v rfl rfl rfl rfl (v_move rfl rfl) ?_
 refine s_e rfl rfl (e_bslice #[.int .u64 x36_] (.int .u64 0) rfl rfl rfl Try.underlying24 SZ25 ZR25 (by decide) rfl (by kernel_rfl)) ?_
 intro b50_
 obtain ⟨n51_, H⟩ := ite_no H
 refine s_e rfl rfl (e_appO (enc := (fun x => [.int .u64 x])) (v := x36_) (xs := xs43_) (ro := ro42_) (z := (.int .u64 0)) (m := 1) (bytes := 8) (i := 0) (j := 2) rfl rfl rfl rfl rfl rfl Try.underlying24 (by kernel_rfl) rfl (by decide) rfl rfl hr44_ rfl rfl rfl rfl (by simp [Value.oneCell']) (by omega) (by simp only [maxLen]; omega)) ?_
 intro ro52_ hr53_ sm54_
 refine s_e rfl rfl (e_st 1 rfl rfl SZ24 rfl rfl rfl rfl (blt_lt rfl)) ?_
 refine s_end ?_
 refine q_block ?_
 exact q_round (ro52_, (xs43_ ++ [x36_])) [1, 2] rfl rfl (by decide) ⟨hr53_, by simp only [List.length_append, List.length_singleton]; omega, hk_ _ H⟩
 rintro D55_ ys_ ⟨ro42_, xs43_⟩ hD_ hS_ hI_
 subst hS_
 obtain ⟨hr44_, hl_xs43_, hI_⟩ := hI_
 have H := (hκ_ _).symm.trans (rng_done hI_)
 refine q_block ?_
 refine q_seq ?_
 refine c_seq rfl ?_
 refine r_ord (l := [0, 1]) rfl (by kernel_rfl) (by kernel_rfl) ?_
 refine s_v rfl rfl rfl rfl (v_ld 1 rfl Try.underlying24 rfl rfl rfl rfl) ?_
 refine s_v rfl rfl rfl rfl (v_assign rfl rfl) ?_
 refine s_end ?_
 refine q_seq ?_
 refine c_ret rfl ?_
 refine q_giveO (flat_int .u64) hr44_ [2, 0, 1, 3, 4, 5, 6, 7] rfl (by decide) rfl ?_
 have e_ := Option.some.inj H
 subst e_
 refine q_take [1, 0, 2, 3, 4, 5, 6, 7] rfl (by decide) ?_
 exact q_retM1 (vs := [.slice (OA ro42_) xs43_.length (OC ro42_)]) (.inl rfl) rfl (.tmp rfl .nil) [0] rfl (by decide) (hX (OA ro42_) (OC ro42_))
 rintro D55_ c_ pre_ ⟨ro42_, xs43_⟩ hD_ hS_ hI_
 exact hI_.elim
 clear H
 have H := e25_
 clear e25_
 refine r_ord (l := [0, 1, 2, 3, 4, 5, 6, 7, 8, 9, 10, 11, 12]) rfl (by kernel_rfl) (by kernel_rfl) ?_
 refine s_v rfl rfl rfl rfl (v_ldA [.int .i64 a0_0, .int .i64 a0_1, .int .i64 a0_2, .int .i64 a0_3, .int .i64 a0_4, .int .i64 a0_5, .int .i64 a0_6, .slice A1 l1.length c1] 0 rfl Try.underlying63 rfl SZ63 rfl rfl rfl rfl) ?_
 obtain ⟨t56_, e57_, H⟩ := bind_s H
 refine s_e rfl rfl (e_callF [2] #[.agg #[.int .i64 a0_0, .int .i64 a0_1, .int .i64 a0_2, .int .i64 a0_3, .int .i64 a0_4, .int .i64 a0_5, .int .i64 a0_6, .slice A1 l1.length c1]] rfl rfl rfl rfl rfl Try.func25 rfl (by decide) rfl rfl rfl rfl (fun w ht => shape_words_whole_con a0_0 a0_1 a0_2 a0_3 a0_4 a0_5 a0_6 A1 c1 l1 t56_ e57_ w _)) ?_
 refine s_v rfl rfl rfl rfl (v_not rfl rfl) ?_
 refine s_v rfl rfl rfl rfl (v_move rfl rfl) ?_
 rcases Bool.eq_false_or_eq_true (!t56_) with h58_ | h58_
 replace H := ite_n (not_t (bnot_t h58_)) H
 refine s_splitv (d := 17) (t := !t56_) rfl (fun _ => ?_) (fun h59_ => absurd (h59_.symm.trans h58_) (by decide))
 refine s_no rfl rfl rfl rfl ?_
 refine s_no rfl rfl rfl rfl ?_
 refine s_v rfl rfl rfl rfl (v_pick rfl rfl rfl rfl) ?_
 refine s_v rfl rfl rfl rfl (v_move rfl rfl) ?_
 refine s_no rfl rfl rfl rfl ?_
 refine s_no rfl rfl rfl rfl ?_
 refine s_no rfl rfl rfl rfl ?_
 refine s_no rfl rfl rfl rfl ?_
 refine s_v rfl rfl rfl rfl (v_pick rfl rfl rfl rfl) ?_
 refine s_end ?_
 have hq_0 := Option.some.inj H
 subst hq_0
 exact q_seq (c_frame (subF_spec (by exact ⟨rfl, rfl, rfl, rfl, trivial⟩)) (c_take [0, 1, 2] rfl (by decide) (J_ () trivial)))
 replace H := ite_y (bnot_f h58_) H
 refine s_splitv (d := 17) (t := !t56_) rfl (fun h60_ => absurd (h60_.symm.trans h58_) (by decide)) (fun _ => ?_)
 refine s_vg rfl rfl rfl rfl (v_move rfl rfl) ?_
 refine s_vg rfl rfl rfl rfl (v_arith rfl rfl rfl rfl) ?_
 refine s_v rfl rfl rfl rfl (v_pick rfl rfl rfl rfl) ?_
 refine s_v rfl rfl rfl rfl (v_move rfl rfl) ?_
 rcases Bool.eq_false_or_eq_true (decide ((a2 : Int) < 0)) with h61_ | h61_
 replace H := ite_y (dec_t h61_) H
 refine s_splitv (d := 21) (t := decide ((a2 : Int) < 0)) rfl (fun _ => ?_) (fun h62_ => absurd (h62_.symm.trans h61_) (by decide))
 refine s_no rfl rfl rfl rfl ?_
 refine s_no rfl rfl rfl rfl ?_
 refine s_no rfl rfl rfl rfl ?_
 refine s_no rfl rfl rfl rfl ?_
 refine s_v rfl rfl rfl rfl (v_pick rfl rfl rfl rfl) ?_
 refine s_end ?_
 have hq_0 := Option.some.inj H
 subst hq_0
 exact q_seq (c_frame (subF_spec (by exact ⟨rfl, rfl, rfl, rfl, trivial⟩)) (c_take [0, 1, 2] rfl (by decide) (J_ () trivial)))
 replace H := ite_n (dec_f h61_) H
 refine s_splitv (d := 21) (t := decide ((a2 : Int) < 0)) rfl (fun h63_ => absurd (h63_.symm.trans h61_) (by decide)) (fun _ => ?_)
 refine s_vg rfl rfl rfl rfl (v_move rfl rfl) ?_
 refine s_vg rfl rfl rfl rfl (v_fa rfl Try.underlying23 rfl SZ3 rfl) ?_
 refine s_vg rfl rfl rfl rfl (v_ld 1 rfl Try.underlying3 rfl rfl rfl rfl) ?_
 refine s_vg rfl rfl rfl rfl (v_arith rfl rfl rfl rfl) ?_
 refine s_v rfl rfl rfl rfl (v_pick rfl rfl rfl rfl) ?_
 refine s_end ?_
 have hq_0 := Option.some.inj H
 subst hq_0
 exact q_seq (c_frame (subF_spec (by exact ⟨rfl, rfl, rfl, rfl, trivial⟩)) (c_take [0, 1, 2] rfl (by decide) (J_ () trivial)))
def shape_words_node.l0 : Nat → Int → Int → Int → Int → Int → Int → Int → List Int → Int → Int → Int → Option Bool
  | 0, _, _, _, _, _, _, _, _, _, _, _ => none
  | k + 1, a0_0, a0_1, a0_2, a0_3, a0_4, a0_5, a0_6, l0_7, a1, t5_, x78_ => (if (x78_ : Int) < (IntKind.wrap .i64 t5_) then (shape_words_marked.f a0_0 a0_1 a0_2 a0_3 a0_4 a0_5 a0_6 l0_7 a1 x78_).bind fun t100_ => (if t100_ = true then shape_words_node.l0 k a0_0 a0_1 a0_2 a0_3 a0_4 a0_5 a0_6 l0_7 a1 t5_ (IntKind.wrap .i64 (x78_ + 1)) else some false) else (shape_words_at.f a0_0 a0_1 a0_2 a0_3 a0_4 a0_5 a0_6 l0_7 (a1 % 4294967296) 2).bind fun t110_ => (slot_Dead.f t110_).bind fun t112_ => some t112_)
def shape_words_node.f (k : Nat) (a0_0 : Int) (a0_1 : Int) (a0_2 : Int) (a0_3 : Int) (a0_4 : Int) (a0_5 : Int) (a0_6 : Int) (l0_7 : List Int) (a1 : Int) (a2 : Int) : Option Bool := (shape_words_at.f a0_0 a0_1 a0_2 a0_3 a0_4 a0_5 a0_6 l0_7 (a1 % 4294967296) 4).bind fun t5_ => ((shape_words_taken.f a0_0 a0_1 a0_2 a0_3 a0_4 a0_5 a0_6 l0_7 a1).bind fun t114_ => (if t114_ = true then (if (t5_ : Int) ≤ (IntKind.wrap .u64 a2) then some true else some (decide ((t5_ : Int) > (IntKind.wrap .u64 a0_3)))) else some true) : Option Bool).bind fun j26_ => (if j26_ = true then some false else (shape_words_marked.f a0_0 a0_1 a0_2 a0_3 a0_4 a0_5 a0_6 l0_7 a1 a2).bind fun t45_ => (if t45_ = true then shape_words_node.l0 k a0_0 a0_1 a0_2 a0_3 a0_4 a0_5 a0_6 l0_7 a1 t5_ (IntKind.wrap .i64 (a2 + 1)) else ((if (a2 : Int) = 0 then some true else (shape_Level.f k a0_0 a0_1 a0_2 a0_3 a0_4 a0_5 a0_6 l0_7 (IntKind.wrap .i64 (a2 - 1))).bind fun t63_ => (slices_Contains_uint64_uint64.f k t63_ a1).bind fun t67_ => some t67_) : Option Bool).bind fun j58_ => some j58_))
set_option maxRecDepth 100000 in
set_option maxHeartbeats 4000000 in
theorem shape_words_node_con (k : Nat) (a0_0 : Int) (a0_1 : Int) (a0_2 : Int) (a0_3 : Int) (a0_4 : Int) (a0_5 : Int) (a0_6 : Int) (A0_7 : Option Addr) (c0_7 : Nat) (l0_7 : List Int) (a1 : Int) (a2 : Int) (r0 : Bool) (h : shape_words_node.f k a0_0 a0_1 a0_2 a0_3 a0_4 a0_5 a0_6 l0_7 a1 a2 = some r0) (w0 : World) (Hs : List Nat) : Con Try.prog 67 #[.agg #[.int .i64 a0_0, .int .i64 a0_1, .int .i64 a0_2, .int .i64 a0_3, .int .i64 a0_4, .int .i64 a0_5, .int .i64 a0_6, .slice A0_7 l0_7.length c0_7], .int .u64 a1, .int .i64 a2] w0 Hs [.f (KC (Kd.int .u64) A0_7 c0_7 l0_7)] (fun X => X (.bool r0) []) := by
 refine con_enter (c := bodyOf Try.f67) Try.func67 rfl (m := 68) rfl rfl rfl ?_
 intro X hX _
 have H := h
 unfold shape_words_node.f at H
 clear h
 refine c_seq rfl ?_
 refine r_ord (l := [0, 1]) rfl (by kernel_rfl) (by kernel_rfl) ?_
 refine s_e rfl rfl (e_box rfl rfl rfl rfl) ?_
 intro b2_
 refine s_v rfl rfl rfl rfl (v_assign rfl rfl) ?_
 refine s_end ?_
 refine q_seq ?_
 refine c_seq rfl ?_
 refine r_ord (l := [0, 1, 2]) rfl (by kernel_rfl) (by kernel_rfl) ?_
 refine s_v rfl rfl rfl rfl (v_move rfl rfl) ?_
 refine s_e rfl rfl (e_callF [] #[.int .u64 a1] rfl rfl rfl rfl rfl Try.func27 rfl (by decide) rfl rfl rfl rfl (fun w ht => handle_Index_con a1 w _)) ?_
 refine s_v rfl rfl rfl rfl (v_assign rfl rfl) ?_
 refine s_end ?_
 refine q_seq ?_
 refine c_seq rfl ?_
 refine r_ord (l := [0, 1, 2, 3]) rfl (by kernel_rfl) (by kernel_rfl) ?_
 refine s_v rfl rfl rfl rfl (v_ldA [.int .i64 a0_0, .int .i64 a0_1, .int .i64 a0_2, .int .i64 a0_3, .int .i64 a0_4, .int .i64 a0_5, .int .i64 a0_6, .slice A0_7 l0_7.length c0_7] 0 rfl Try.underlying63 rfl SZ63 rfl rfl rfl rfl) ?_
 refine s_v rfl rfl rfl rfl (v_move rfl rfl) ?_
 obtain ⟨t5_, e6_, H⟩ := bind_s H
 refine s_e rfl rfl (e_callF [1] #[.agg #[.int .i64 a0_0, .int .i64 a0_1, .int .i64 a0_2, .int .i64 a0_3, .int .i64 a0_4, .int .i64 a0_5, .int .i64 a0_6, .slice A0_7 l0_7.length c0_7], .int .i64 (a1 % 4294967296), .int .i64 4] rfl rfl rfl rfl rfl Try.func28 rfl (by decide) rfl rfl rfl rfl (fun w ht => shape_words_at_con a0_0 a0_1 a0_2 a0_3 a0_4 a0_5 a0_6 A0_7 c0_7 l0_7 (a1 % 4294967296) 4 t5_ e6_ w _)) ?_
 refine s_v rfl rfl rfl rfl (v_assign rfl rfl) ?_
 refine s_end ?_
 refine q_seq ?_
 refine c_seq rfl ?_
 obtain ⟨j26_, e27_, H⟩ := bind_s H
 refine c_join (β := Unit) (fun _ => True) (fun _ => [(1, .int .u64 a1), (2, .int .i64 a2), (3, .pointer (some ⟨b2_, 0, none⟩)), (6, .bool false), (7, .int .i64 (a1 % 4294967296)), (8, .int .u64 t5_), (32, .bool j26_)]) (fun _ => [.b b2_ (.cells #[.int .i64 a0_0, .int .i64 a0_1, .int .i64 a0_2, .int .i64 a0_3, .int .i64 a0_4, .int .i64 a0_5, .int .i64 a0_6, .slice A0_7 l0_7.length c0_7] 63 (0, 0)), .f (KC (Kd.int .u64) A0_7 c0_7 l0_7)]) rfl (fun _ _ => ?_) (fun J_ => ?_)
 rcases Bool.eq_false_or_eq_true j26_ with h28_ | h28_
 subst h28_
 replace H := ite_y rfl H
 refine c_cond1 rfl rfl ?_
 refine c_seq rfl ?_
 refine r_ord (l := [0]) rfl (by kernel_rfl) (by kernel_rfl) ?_
 refine s_v rfl rfl rfl rfl (v_assign rfl rfl) ?_
 refine s_end ?_
 refine q_seq ?_
 refine c_ret rfl ?_
 refine q_then_ret ?_
 have e_ := Option.some.inj H
 subst e_
 exact q_ret (vs := [.bool false]) rfl (.tmp rfl .nil) [] rfl (by decide) (hX)
 subst h28_
 replace H := ite_n (by decide) H
 refine c_cond0 rfl rfl ?_
 refine c_skip rfl ?_
 refine q_seq ?_
 refine c_seq rfl ?_
 refine c_seq rfl ?_
 refine r_ord (l := [0, 1, 2, 3, 4]) rfl (by kernel_rfl) (by kernel_rfl) ?_
 refine s_v rfl rfl rfl rfl (v_ldA [.int .i64 a0_0, .int .i64 a0_1, .int .i64 a0_2, .int .i64 a0_3, .int .i64 a0_4, .int .i64 a0_5, .int .i64 a0_6, .slice A0_7 l0_7.length c0_7] 0 rfl Try.underlying63 rfl SZ63 rfl rfl rfl rfl) ?_
 refine s_v rfl rfl rfl rfl (v_move rfl rfl) ?_
 refine s_v rfl rfl rfl rfl (v_move rfl rfl) ?_
 obtain ⟨t45_, e46_, H⟩ := bind_s H
 refine s_e rfl rfl (e_callF [1] #[.agg #[.int .i64 a0_0, .int .i64 a0_1, .int .i64 a0_2, .int .i64 a0_3, .int .i64 a0_4, .int .i64 a0_5, .int .i64 a0_6, .slice A0_7 l0_7.length c0_7], .int .u64 a1, .int .i64 a2] rfl rfl rfl rfl rfl Try.func74 rfl (by decide) rfl rfl rfl rfl (fun w ht => shape_words_marked_con a0_0 a0_1 a0_2 a0_3 a0_4 a0_5 a0_6 A0_7 c0_7 l0_7 a1 a2 t45_ e46_ w _)) ?_
 refine s_v rfl rfl rfl rfl (v_not rfl rfl) ?_
 refine s_end ?_
 refine q_seq ?_
 rcases Bool.eq_false_or_eq_true (!t45_) with h47_ | h47_
 replace H := ite_n (not_t (bnot_t h47_)) H
 refine c_cond rfl rfl (fun _ => ?_) (fun h48_ => absurd (h48_.symm.trans h47_) (by decide))
 obtain ⟨j58_, e59_, H⟩ := bind_s H
 refine c_join (β := Unit) (fun _ => True) (fun _ => [(1, .int .u64 a1), (2, .int .i64 a2), (3, .pointer (some ⟨b2_, 0, none⟩)), (6, .bool j58_), (7, .int .i64 (a1 % 4294967296)), (8, .int .u64 t5_)]) (fun _ => [.b b2_ (.cells #[.int .i64 a0_0, .int .i64 a0_1, .int .i64 a0_2, .int .i64 a0_3, .int .i64 a0_4, .int .i64 a0_5, .int .i64 a0_6, .slice A0_7 l0_7.length c0_7] 63 (0, 0)), .f (KC (Kd.int .u64) A0_7 c0_7 l0_7)]) rfl (fun _ _ => ?_) (fun J_ => ?_)
 refine c_ret rfl ?_
 refine q_then_ret ?_
 have e_ := Option.some.inj H
 subst e_
 exact q_ret (vs := [.bool j58_]) rfl (.tmp rfl .nil) [] rfl (by decide) (hX)
 clear H
 have H := e59_
 clear e59_
 refine r_ord (l := [0, 1, 2, 3, 4, 5, 6, 7, 8, 9, 10, 11, 12, 13]) rfl (by kernel_rfl) (by kernel_rfl) ?_
 refine s_v rfl rfl rfl rfl (v_move rfl rfl) ?_
 refine s_v rfl rfl rfl rfl (v_arith rfl rfl rfl rfl) ?_
 refine s_v rfl rfl rfl rfl (v_move rfl rfl) ?_
 rcases Bool.eq_false_or_eq_true ((a2 : Int) == 0) with h60_ | h60_
 replace H := ite_y (ibeq_t h60_) H
 refine s_splitv (d := 40) (t := (a2 : Int) == 0) rfl (fun _ => ?_) (fun h61_ => absurd (h61_.symm.trans h60_) (by decide))
 refine s_no rfl rfl rfl rfl ?_
 refine s_no rfl rfl rfl rfl ?_
 refine s_no rfl rfl rfl rfl ?_
 refine s_no rfl rfl rfl rfl ?_
 refine s_no rfl rfl rfl rfl ?_
 refine s_no rfl rfl rfl rfl ?_
 refine s_no rfl rfl rfl rfl ?_
 refine s_no rfl rfl rfl rfl ?_
 refine s_no rfl rfl rfl rfl ?_
 refine s_v rfl rfl rfl rfl (v_pick rfl rfl rfl rfl) ?_
 refine s_v rfl rfl rfl rfl (v_assign rfl rfl) ?_
 refine s_end ?_
 have hq_0 := Option.some.inj H
 subst hq_0
 exact q_seq (c_frame (subF_spec (by exact ⟨rfl, rfl, rfl, rfl, rfl, rfl, trivial⟩)) (c_take [0, 1] rfl (by decide) (J_ () trivial)))
 replace H := ite_n (ibeq_f h60_) H
 refine s_splitv (d := 40) (t := (a2 : Int) == 0) rfl (fun h62_ => absurd (h62_.symm.trans h60_) (by decide)) (fun _ => ?_)
 refine s_vg rfl rfl rfl rfl (v_fa rfl Try.underlying63 rfl SZ23 rfl) ?_
 refine s_vg rfl rfl rfl rfl (v_ldA [.int .i64 a0_0, .int .i64 a0_1, .int .i64 a0_2, .int .i64 a0_3, .int .i64 a0_4, .int .i64 a0_5, .int .i64 a0_6] 0 rfl Try.underlying23 rfl SZ23 rfl rfl rfl rfl) ?_
 refine s_vg rfl rfl rfl rfl (v_fa rfl Try.underlying63 rfl SZ24 rfl) ?_
 refine s_vg rfl rfl rfl rfl (v_ld 0 rfl Try.underlying24 rfl rfl rfl rfl) ?_
 refine s_vg rfl rfl rfl rfl (v_move rfl rfl) ?_
 refine s_vg rfl rfl rfl rfl (v_arith rfl rfl rfl rfl) ?_
 obtain ⟨t63_, e64_, H⟩ := bind_s H
 refine s_eg rfl rfl (e_callF [1] #[.agg #[.int .i64 a0_0, .int .i64 a0_1, .int .i64 a0_2, .int .i64 a0_3, .int .i64 a0_4, .int .i64 a0_5, .int .i64 a0_6], .slice A0_7 l0_7.length c0_7, .int .i64 (IntKind.wrap .i64 (a2 - 1))] rfl rfl rfl rfl rfl Try.func9 rfl (by decide) rfl rfl rfl rfl (fun w ht => shape_Level_con _ a0_0 a0_1 a0_2 a0_3 a0_4 a0_5 a0_6 A0_7 c0_7 l0_7 (IntKind.wrap .i64 (a2 - 1)) t63_ e64_ w _)) ?_
 intro A65_ c66_
 refine s_vg rfl rfl rfl rfl (v_move rfl rfl) ?_
 obtain ⟨t67_, e68_, H⟩ := bind_s H
 refine s_eg rfl rfl (e_callF [0] #[.slice A65_ t63_.length c66_, .int .u64 a1] rfl rfl rfl rfl rfl Try.func47 rfl (by decide) rfl rfl rfl rfl (fun w ht => slices_Contains_uint64_uint64_con _ A65_ c66_ t63_ a1 t67_ e68_ w _)) ?_
 refine s_v rfl rfl rfl rfl (v_pick rfl rfl rfl rfl) ?_
 refine s_v rfl rfl rfl rfl (v_assign rfl rfl) ?_
 refine s_end ?_
 have hq_0 := Option.some.inj H
 subst hq_0
 exact q_seq (c_frame (subF_spec (by exact ⟨rfl, rfl, rfl, rfl, rfl, rfl, trivial⟩)) (c_take [1, 2] rfl (by decide) (J_ () trivial)))
 replace H := ite_y (bnot_f h47_) H
 refine c_cond rfl rfl (fun h69_ => absurd (h69_.symm.trans h47_) (by decide)) (fun _ => ?_)
 refine c_skip rfl ?_
 refine q_seq ?_
 refine c_seq rfl ?_
 refine c_seq rfl ?_
 refine r_ord (l := [0, 1, 2]) rfl (by kernel_rfl) (by kernel_rfl) ?_
 refine s_v rfl rfl rfl rfl (v_move rfl rfl) ?_
 refine s_v rfl rfl rfl rfl (v_arith rfl rfl rfl rfl) ?_
 refine s_v rfl rfl rfl rfl (v_assign rfl rfl) ?_
 refine s_end ?_
 refine q_seq ?_
 refine c_block rfl ?_
 refine c_loop (σ := Nat × Int) (fun s_ : Nat × Int => match s_ with | (k, x78_) => shape_words_node.l0 k a0_0 a0_1 a0_2 a0_3 a0_4 a0_5 a0_6 l0_7 a1 t5_ x78_ = some r0) (fun s_ : Nat × Int => match s_ with | (k, x78_) => k) (fun s_ : Nat × Int => match s_ with | (k, x78_) => [(1, .int .u64 a1), (3, .pointer (some ⟨b2_, 0, none⟩)), (6, .bool false), (7, .int .i64 (a1 % 4294967296)), (8, .int .u64 t5_), (9, .int .i64 x78_)]) (fun s_ : Nat × Int => match s_ with | (k, x78_) => [.b b2_ (.cells #[.int .i64 a0_0, .int .i64 a0_1, .int .i64 a0_2, .int .i64 a0_3, .int .i64 a0_4, .int .i64 a0_5, .int .i64 a0_6, .slice A0_7 l0_7.length c0_7] 63 (0, 0)), .f (KC (Kd.int .u64) A0_7 c0_7 l0_7)]) (k, IntKind.wrap .i64 (a2 + 1)) [0, 1] rfl H (subF_spec ⟨rfl, rfl, rfl, rfl, rfl, rfl, trivial⟩) rfl (by decide) ?_
 rintro ⟨k0_, x78_⟩ hs87_
 clear H
 have H : shape_words_node.l0 k0_ a0_0 a0_1 a0_2 a0_3 a0_4 a0_5 a0_6 l0_7 a1 t5_ x78_ = some r0 := hs87_
 try clear hs87_
 rcases k0_ with _ | k0_
 exact none_no (show none = _ from H)
 unfold shape_words_node.l0 at H
 have hko_0 : k0_ ≤ k0_ := Nat.le_refl _
 refine c_seq rfl ?_
 refine c_seq rfl ?_
 refine r_ord (l := [0, 1, 2, 3]) rfl (by kernel_rfl) (by kernel_rfl) ?_
 refine s_v rfl rfl rfl rfl (v_move rfl rfl) ?_
 refine s_v rfl rfl rfl rfl (v_move rfl rfl) ?_
 refine s_v rfl rfl rfl rfl (v_conv rfl Try.underlying25 Try.underlying3 rfl) ?_
 refine s_v rfl rfl rfl rfl (v_arith rfl rfl rfl rfl) ?_
 refine s_end ?_
 refine q_seq ?_
 rcases Bool.eq_false_or_eq_true (decide ((x78_ : Int) < (IntKind.wrap .i64 t5_))) with h91_ | h91_
 replace H := ite_y (dec_t h91_) H
 refine c_cond rfl rfl (fun _ => ?_) (fun h92_ => absurd (h92_.symm.trans h91_) (by decide))
 refine c_skip rfl ?_
 refine q_seq ?_
 refine c_seq rfl ?_
 refine c_block rfl ?_
 refine c_seq rfl ?_
 refine r_ord (l := [0, 1, 2, 3, 4]) rfl (by kernel_rfl) (by kernel_rfl) ?_
 refine s_v rfl rfl rfl rfl (v_ldA [.int .i64 a0_0, .int .i64 a0_1, .int .i64 a0_2, .int .i64 a0_3, .int .i64 a0_4, .int .i64 a0_5, .int .i64 a0_6, .slice A0_7 l0_7.length c0_7] 0 rfl Try.underlying63 rfl SZ63 rfl rfl rfl rfl) ?_
 refine s_v rfl rfl rfl rfl (v_move rfl rfl) ?_
 refine s_v rfl rfl rfl rfl (v_move rfl rfl) ?_
 obtain ⟨t100_, e101_, H⟩ := bind_s H
 refine s_e rfl rfl (e_callF [1] #[.agg #[.int .i64 a0_0, .int .i64 a0_1, .int .i64 a0_2, .int .i64 a0_3, .int .i64 a0_4, .int .i64 a0_5, .int .i64 a0_6, .slice A0_7 l0_7.length c0_7], .int .u64 a1, .int .i64 x78_] rfl rfl rfl rfl rfl Try.func74 rfl (by decide) rfl rfl rfl rfl (fun w ht => shape_words_marked_con a0_0 a0_1 a0_2 a0_3 a0_4 a0_5 a0_6 A0_7 c0_7 l0_7 a1 x78_ t100_ e101_ w _)) ?_
 refine s_v rfl rfl rfl rfl (v_not rfl rfl) ?_
 refine s_end ?_
 refine q_seq ?_
 rcases Bool.eq_false_or_eq_true (!t100_) with h102_ | h102_
 replace H := ite_n (not_t (bnot_t h102_)) H
 refine c_cond rfl rfl (fun _ => ?_) (fun h103_ => absurd (h103_.symm.trans h102_) (by decide))
 refine c_seq rfl ?_
 refine r_ord (l := [0]) rfl (by kernel_rfl) (by kernel_rfl) ?_
 refine s_v rfl rfl rfl rfl (v_assign rfl rfl) ?_
 refine s_end ?_
 refine q_seq ?_
 refine c_ret rfl ?_
 refine q_block_ret ?_
 refine q_then_ret ?_
 refine q_then_ret ?_
 refine q_block_ret ?_
 refine q_then_ret ?_
 have e_ := Option.some.inj H
 subst e_
 exact q_ret (vs := [.bool false]) rfl (.tmp rfl .nil) [] rfl (by decide) (hX)
 replace H := ite_y (bnot_f h102_) H
 refine c_cond rfl rfl (fun h104_ => absurd (h104_.symm.trans h102_) (by decide)) (fun _ => ?_)
 refine c_skip rfl ?_
 refine q_block ?_
 refine q_seq ?_
 refine r_ord (l := [0, 1, 2]) rfl (by kernel_rfl) (by kernel_rfl) ?_
 refine s_v rfl rfl rfl rfl (v_move rfl rfl) ?_
 refine s_v rfl rfl rfl rfl (v_arith rfl rfl rfl rfl) ?_
 refine s_v rfl rfl rfl rfl (v_assign rfl rfl) ?_
 refine s_end ?_
 exact q_again (k0_, IntKind.wrap .i64 (x78_ + 1)) [0, 1] H (Nat.lt_succ_of_le hko_0) (subF_spec ⟨rfl, rfl, rfl, rfl, rfl, rfl, trivial⟩) rfl (by decide)
 replace H := ite_n (dec_f h91_) H
 refine c_cond rfl rfl (fun h105_ => absurd (h105_.symm.trans h91_) (by decide)) (fun _ => ?_)
 refine c_exit (i := 0) rfl rfl ?_
 refine q_then_exit ?_
 refine q_then_exit ?_
 refine q_block_here rfl ?_
 refine q_seq ?_
 refine c_seq rfl ?_
 refine r_ord (l := [0, 1, 2, 3, 4]) rfl (by kernel_rfl) (by kernel_rfl) ?_
 refine s_v rfl rfl rfl rfl (v_ldA [.int .i64 a0_0, .int .i64 a0_1, .int .i64 a0_2, .int .i64 a0_3, .int .i64 a0_4, .int .i64 a0_5, .int .i64 a0_6, .slice A0_7 l0_7.length c0_7] 0 rfl Try.underlying63 rfl SZ63 rfl rfl rfl rfl) ?_
 refine s_v rfl rfl rfl rfl (v_move rfl rfl) ?_
 obtain ⟨t110_, e111_, H⟩ := bind_s H
 refine s_e rfl rfl (e_callF [1] #[.agg #[.int .i64 a0_0, .int .i64 a0_1, .int .i64 a0_2, .int .i64 a0_3, .int .i64 a0_4, .int .i64 a0_5, .int .i64 a0_6, .slice A0_7 l0_7.length c0_7], .int .i64 (a1 % 4294967296), .int .i64 2] rfl rfl rfl rfl rfl Try.func28 rfl (by decide) rfl rfl rfl rfl (fun w ht => shape_words_at_con a0_0 a0_1 a0_2 a0_3 a0_4 a0_5 a0_6 A0_7 c0_7 l0_7 (a1 % 4294967296) 2 t110_ e111_ w _)) ?_
 obtain ⟨t112_, e113_, H⟩ := bind_s H
 refine s_e rfl rfl (e_callF [] #[.int .u64 t110_] rfl rfl rfl rfl rfl Try.func29 rfl (by decide) rfl rfl rfl rfl (fun w ht => slot_Dead_con t110_ t112_ e113_ w _)) ?_
 refine s_v rfl rfl rfl rfl (v_assign rfl rfl) ?_
 refine s_end ?_
 refine q_seq ?_
 refine c_ret rfl ?_
 have e_ := Option.some.inj H
 subst e_
 exact q_ret (vs := [.bool t112_]) rfl (.tmp rfl .nil) [] rfl (by decide) (hX)
 clear H
 have H := e27_
 clear e27_
 refine r_ord (l := [0, 1, 2, 3, 4, 5, 6, 7, 8, 9, 10, 11, 12, 13, 14, 15, 16, 17]) rfl (by kernel_rfl) (by kernel_rfl) ?_
 refine s_v rfl rfl rfl rfl (v_ldA [.int .i64 a0_0, .int .i64 a0_1, .int .i64 a0_2, .int .i64 a0_3, .int .i64 a0_4, .int .i64 a0_5, .int .i64 a0_6, .slice A0_7 l0_7.length c0_7] 0 rfl Try.underlying63 rfl SZ63 rfl rfl rfl rfl) ?_
 refine s_v rfl rfl rfl rfl (v_move rfl rfl) ?_
 obtain ⟨t114_, e115_, H⟩ := bind_s H
 refine s_e rfl rfl (e_callF [1] #[.agg #[.int .i64 a0_0, .int .i64 a0_1, .int .i64 a0_2, .int .i64 a0_3, .int .i64 a0_4, .int .i64 a0_5, .int .i64 a0_6, .slice A0_7 l0_7.length c0_7], .int .u64 a1] rfl rfl rfl rfl rfl Try.func41 rfl (by decide) rfl rfl rfl rfl (fun w ht => shape_words_taken_con a0_0 a0_1 a0_2 a0_3 a0_4 a0_5 a0_6 A0_7 c0_7 l0_7 a1 t114_ e115_ w _)) ?_
 refine s_v rfl rfl rfl rfl (v_not rfl rfl) ?_
 refine s_v rfl rfl rfl rfl (v_move rfl rfl) ?_
 rcases Bool.eq_false_or_eq_true (!t114_) with h116_ | h116_
 replace H := ite_n (not_t (bnot_t h116_)) H
 refine s_splitv (d := 19) (t := !t114_) rfl (fun _ => ?_) (fun h117_ => absurd (h117_.symm.trans h116_) (by decide))
 refine s_no rfl rfl rfl rfl ?_
 refine s_no rfl rfl rfl rfl ?_
 refine s_no rfl rfl rfl rfl ?_
 refine s_no rfl rfl rfl rfl ?_
 refine s_v rfl rfl rfl rfl (v_pick rfl rfl rfl rfl) ?_
 refine s_v rfl rfl rfl rfl (v_move rfl rfl) ?_
 refine s_no rfl rfl rfl rfl ?_
 refine s_no rfl rfl rfl rfl ?_
 refine s_no rfl rfl rfl rfl ?_
 refine s_no rfl rfl rfl rfl ?_
 refine s_no rfl rfl rfl rfl ?_
 refine s_no rfl rfl rfl rfl ?_
 refine s_v rfl rfl rfl rfl (v_pick rfl rfl rfl rfl) ?_
 refine s_end ?_
 have hq_0 := Option.some.inj H
 subst hq_0
 exact q_seq (c_frame (subF_spec (by exact ⟨rfl, rfl, rfl, rfl, rfl, rfl, rfl, trivial⟩)) (c_take [0, 1] rfl (by decide) (J_ () trivial)))
 replace H := ite_y (bnot_f h116_) H
 refine s_splitv (d := 19) (t := !t114_) rfl (fun h118_ => absurd (h118_.symm.trans h116_) (by decide)) (fun _ => ?_)
 refine s_vg rfl rfl rfl rfl (v_move rfl rfl) ?_
 refine s_vg rfl rfl rfl rfl (v_move rfl rfl) ?_
 refine s_vg rfl rfl rfl rfl (v_conv rfl Try.underlying3 Try.underlying25 rfl) ?_
 refine s_vg rfl rfl rfl rfl (v_arith rfl rfl rfl rfl) ?_
 refine s_v rfl rfl rfl rfl (v_pick rfl rfl rfl rfl) ?_
 refine s_v rfl rfl rfl rfl (v_move rfl rfl) ?_
 rcases Bool.eq_false_or_eq_true (decide ((t5_ : Int) ≤ (IntKind.wrap .u64 a2))) with h119_ | h119_
 replace H := ite_y (dec_t h119_) H
 refine s_splitv (d := 25) (t := decide ((t5_ : Int) ≤ (IntKind.wrap .u64 a2))) rfl (fun _ => ?_) (fun h120_ => absurd (h120_.symm.trans h119_) (by decide))
 refine s_no rfl rfl rfl rfl ?_
 refine s_no rfl rfl rfl rfl ?_
 refine s_no rfl rfl rfl rfl ?_
 refine s_no rfl rfl rfl rfl ?_
 refine s_no rfl rfl rfl rfl ?_
 refine s_no rfl rfl rfl rfl ?_
 refine s_v rfl rfl rfl rfl (v_pick rfl rfl rfl rfl) ?_
 refine s_end ?_
 have hq_0 := Option.some.inj H
 subst hq_0
 exact q_seq (c_frame (subF_spec (by exact ⟨rfl, rfl, rfl, rfl, rfl, rfl, rfl, trivial⟩)) (c_take [0, 1] rfl (by decide) (J_ () trivial)))
 replace H := ite_n (dec_f h119_) H
 refine s_splitv (d := 25) (t := decide ((t5_ : Int) ≤ (IntKind.wrap .u64 a2))) rfl (fun h121_ => absurd (h121_.symm.trans h119_) (by decide)) (fun _ => ?_)
 refine s_vg rfl rfl rfl rfl (v_move rfl rfl) ?_
 refine s_vg rfl rfl rfl rfl (v_fa rfl Try.underlying63 rfl SZ23 rfl) ?_
 refine s_vg rfl rfl rfl rfl (v_fa rfl Try.underlying23 rfl SZ3 rfl) ?_
 refine s_vg rfl rfl rfl rfl (v_ld 0 rfl Try.underlying3 rfl rfl rfl rfl) ?_
 refine s_vg rfl rfl rfl rfl (v_conv rfl Try.underlying3 Try.underlying25 rfl) ?_
 refine s_vg rfl rfl rfl rfl (v_arith rfl rfl rfl rfl) ?_
 refine s_v rfl rfl rfl rfl (v_pick rfl rfl rfl rfl) ?_
 refine s_end ?_
 have hq_0 := Option.some.inj H
 subst hq_0
 exact q_seq (c_frame (subF_spec (by exact ⟨rfl, rfl, rfl, rfl, rfl, rfl, rfl, trivial⟩)) (c_take [0, 1] rfl (by decide) (J_ () trivial)))
def shape_words_right.b0 (k : Nat) (a0_0 : Int) (a0_1 : Int) (a0_2 : Int) (a0_3 : Int) (a0_4 : Int) (a0_5 : Int) (a0_6 : Int) (l0_7 : List Int) (a1 : Int) (κ_ : (Int × Int) → Option Bool) (x29_ x30_ : Int) (st_ : Int × Int) : Option Bool := match st_ with | (x61_, x62_) => ((if (x29_ : Int) = 0 then some true else (shape_words_at.f a0_0 a0_1 a0_2 a0_3 a0_4 a0_5 a0_6 l0_7 (x30_ % 4294967296) 1).bind fun t133_ => some (decide ((x61_ : Int) < t133_))) : Option Bool).bind fun j96_ => ((if (x29_ : Int) ≥ a0_2 then some true else (if j96_ = true then (shape_words_node.f k a0_0 a0_1 a0_2 a0_3 a0_4 a0_5 a0_6 l0_7 x30_ a1).bind fun t130_ => some (!t130_) else some true)) : Option Bool).bind fun j117_ => (if j117_ = true then some false else (shape_words_at.f a0_0 a0_1 a0_2 a0_3 a0_4 a0_5 a0_6 l0_7 (x30_ % 4294967296) 1).bind fun t120_ => (shape_words_at.f a0_0 a0_1 a0_2 a0_3 a0_4 a0_5 a0_6 l0_7 (x30_ % 4294967296) (IntKind.wrap .i64 (6 + a1))).bind fun t122_ => κ_ (t120_, t122_))
def shape_words_right.f (k : Nat) (a0_0 : Int) (a0_1 : Int) (a0_2 : Int) (a0_3 : Int) (a0_4 : Int) (a0_5 : Int) (a0_6 : Int) (l0_7 : List Int) (a1 : Int) : Option Bool := (shape_words_at.f a0_0 a0_1 a0_2 a0_3 a0_4 a0_5 a0_6 l0_7 0 (IntKind.wrap .i64 (6 + a1))).bind fun t10_ => (handle_Marked.f t10_).bind fun t18_ => (if t18_ = true then some false else (if okB a0_0 a0_1 a0_2 a0_3 a0_4 a0_5 a0_6 l0_7 a1 = true then (if 1000 ≤ k then (rng (shape_words_right.b0 k a0_0 a0_1 a0_2 a0_3 a0_4 a0_5 a0_6 l0_7 a1) (lvlF a0_0 a0_1 a0_2 a0_3 a0_4 a0_5 a0_6 l0_7 a1) (fun (x61_, x62_) => (handle_Valid.f x62_).bind fun t140_ => some (!t140_)) (0, t10_)) else none) else none))
theorem plF_ix (x : Int) : plF x % 4294967296 = x % 4294967296 := by
  unfold plF handle_Plain.f
  have h : ∀ b c : BitVec 64, c.setWidth 32 = 0#32 → (b &&& ~~~c).toNat % 4294967296 = b.toNat % 4294967296 := by
    intro b c hc
    have h1 : (b &&& ~~~c).setWidth 32 = b.setWidth 32 := by
      rw [BitVec.setWidth_and, BitVec.setWidth_not (by decide), hc, show (~~~(0#32) : BitVec 32) = BitVec.allOnes 32 from by decide, BitVec.and_allOnes]
    have h2 := congrArg BitVec.toNat h1
    rw [BitVec.toNat_setWidth, BitVec.toNat_setWidth] at h2
    exact h2
  have h1 := h (BitVec.ofInt 64 x) (BitVec.ofInt 64 4611686018427387904) (by decide)
  have h2 : ((BitVec.ofInt 64 x).toNat : Int) = x % 18446744073709551616 := by
    rw [BitVec.toNat_ofInt]
    have : 0 ≤ x % ((2 ^ 64 : Nat) : Int) := Int.emod_nonneg _ (by decide)
    rw [Int.toNat_of_nonneg this]
    rfl
  have h3 : (((BitVec.ofInt 64 x &&& ~~~ BitVec.ofInt 64 4611686018427387904).toNat : Nat) : Int) % 4294967296 = x % 4294967296 := by omega
  have key : ∀ n : Nat, n < 18446744073709551616 → (n : Int) % 4294967296 = x % 4294967296 → (some (IntKind.wrap .u64 (n : Int))).getD 0 % 4294967296 = x % 4294967296 := fun n hn he => by
    rw [wu64 (by omega) (by omega)]
    exact he
  exact key _ (BitVec.isLt _) h3
theorem ylF_mem {C : Int} {nm : Int → Bool} {pl nx : Int → Int} : ∀ (m : Nat) (j x : Int), 0 ≤ j → ∀ p ∈ ylF C nm pl nx m j x, 0 ≤ p.1 ∧ p.1 ≤ C ∧ ∃ y, nm y = true ∧ p.2 = pl y
  | 0, _, _, _, p, hp => by cases hp
  | m + 1, j, x, hj, p, hp => by
    unfold ylF at hp
    split at hp
    · split at hp
      · rcases List.mem_cons.1 hp with rfl | hp
        · exact ⟨hj, by assumption, x, by assumption, rfl⟩
        · exact ylF_mem m _ _ (by omega) p hp
      · cases hp
    · cases hp
theorem lvl_mem {T S C H K V L lev : Int} {l : List Int} {p : Int × Int} (hp : p ∈ lvlF T S C H K V L l lev) : 0 ≤ p.1 ∧ p.1 ≤ C ∧ 1 ≤ p.2 % 4294967296 ∧ p.2 % 4294967296 ≤ C := by
  obtain ⟨h1, h2, y, h3, h4⟩ := ylF_mem _ _ _ (Int.le_refl 0) p hp
  rw [h4, plF_ix]
  exact ⟨h1, h2, names_ix h3⟩
theorem level_rng (k : Nat) (κ : List Int → Option (List Int)) : ∀ (ys : List (Int × Int)) (xs : List Int), xs.length + ys.length < 1000 → rng (shape_Level.b0 k) ys κ xs = κ (xs ++ ys.map (·.2))
  | [], xs, _ => by rw [List.map_nil, List.append_nil]; rfl
  | y :: ys, xs, h => by
    rw [List.length_cons] at h
    have e : rng (shape_Level.b0 k) (y :: ys) κ xs = if xs.length < 17592186044416 then rng (shape_Level.b0 k) ys κ (xs ++ [y.2]) else none := rfl
    rw [e, if_pos (by omega), level_rng k κ ys _ (by rw [List.length_append, List.length_singleton]; omega), List.append_assoc]
    rfl
theorem whole_is (T S C H K V L : Int) (l : List Int) : shape_words_whole.f T S C H K V L l = some (r7 T S C H K V L && decide ((l.length : Int) = lenI T S C H)) := by
  unfold shape_words_whole.f
  rw [plan_Right_is, plan_Len_is]
  simp only [Option.bind_some]
  by_cases h : r7 T S C H K V L = true
  · rw [if_pos h, if_pos h, h]
    simp only [Option.bind_some, Bool.true_and]
    rw [Bool.eq_iff_iff.2 (show ((l.length : Int) == lenI T S C H) = true ↔ decide ((l.length : Int) = lenI T S C H) = true by simp)]
  · rw [if_neg h]
    rw [Bool.not_eq_true] at h
    rw [h]
    rfl
theorem Level_is {k : Nat} (hk : 1000 ≤ k) (T S C H K V L : Int) (l : List Int) (hp : ∀ x ∈ l, 0 ≤ x) (lev : Int) : shape_Level.f k T S C H K V L l lev = some (if okB T S C H K V L l lev = true then (lvlF T S C H K V L l lev).map (·.2) else []) := by
  unfold shape_Level.f
  rw [whole_is]
  simp only [Option.bind_some]
  by_cases h : okB T S C H K V L l lev = true
  · obtain ⟨h1, h2, h3, h4, _⟩ := okB_iff.1 h
    have hl := lvl_len h
    rw [if_pos h, if_pos h, if_pos hk, level_rng k _ _ _ (by simp only [List.length_nil]; omega), r7_iff.2 h1, decide_eq_true h2, Bool.and_self, if_pos rfl, if_neg (by omega), decide_eq_false (by omega)]
    simp
  · rw [if_neg h, if_neg h]
    by_cases h1 : (r7 T S C H K V L && decide ((l.length : Int) = lenI T S C H)) = true
    · rw [if_pos h1]
      by_cases h2 : lev < 0
      · rw [if_pos h2]; rfl
      · rw [if_neg h2]
        have h3 : lev ≥ H := by
          rw [Bool.and_eq_true, r7_iff, decide_eq_true_eq] at h1
          rw [okB_iff] at h
          have := h1.1; have := h1.2
          exact Int.not_lt.1 (fun h4 => h ⟨h1.1, h1.2, by omega, h4, hp⟩)
        rw [decide_eq_true h3]; rfl
    · rw [if_neg h1]; rfl
theorem index_l0 {l : List Int} (hb : l.length ≤ 1000) (a : Int) : ∀ (m k i : Nat), l.length = i + m → m < k → ∃ r, slices_Index_uint64_uint64.l0 k l a (i : Int) = some r
  | 0, 0, i, _, h => absurd h (by decide)
  | m + 1, 0, i, _, h => absurd h (by omega)
  | 0, k + 1, i, hl, _ => ⟨-1, by rw [slices_Index_uint64_uint64.l0, if_neg (by omega)]⟩
  | m + 1, k + 1, i, hl, h => by
    have e2 : IntKind.wrap .i64 ((i : Int) + 1) = ((i + 1 : Nat) : Int) := by rw [wi64 (by omega) (by omega)]; rfl
    rw [slices_Index_uint64_uint64.l0, if_pos (by omega), if_pos (by omega), e2]
    split
    · exact ⟨_, rfl⟩
    · exact index_l0 hb a m k (i + 1) (by omega) (by omega)
theorem contains_tot {k : Nat} (hk : 1000 ≤ k) {l : List Int} (hb : l.length ≤ 100) (a : Int) : ∃ r, slices_Contains_uint64_uint64.f k l a = some r := by
  obtain ⟨r, hr⟩ := index_l0 (l := l) (by omega) a l.length k 0 (by omega) (by omega)
  unfold slices_Contains_uint64_uint64.f slices_Index_uint64_uint64.f
  exact ⟨_, by rw [show ((0 : Nat) : Int) = 0 from rfl] at hr; rw [hr]; rfl⟩
theorem meta_tot (a b : Int) : ∃ x y, slot_Meta.f a b = some (x, y) := by
  unfold slot_Meta.f slot_word_right.f slot_word_packed.f
  simp only [Option.bind_some]
  generalize ((a == (if (0 : Int) < (if (2 : Int) < a then 2 else a) then (if (2 : Int) < a then 2 else a) else 0)) && (b == (if (0 : Int) < (if (1073741823 : Int) < b then 1073741823 else b) then (if (1073741823 : Int) < b then 1073741823 else b) else 0))) = q
  cases q
  · exact ⟨_, _, rfl⟩
  · exact ⟨_, _, rfl⟩
section
variable {T S C H K V L : Int} {l : List Int}
theorem taken_tot (hr : R7 T S C H K V L) (hl : (l.length : Int) = lenI T S C H) {h : Int} (h1 : 0 ≤ h % 4294967296) (h2 : h % 4294967296 ≤ C) : ∃ r, shape_words_taken.f T S C H K V L l h = some r := by
  obtain ⟨x, y, e⟩ := meta_tot 1 (h / 4294967296 % 1073741824)
  have hf : isF C H (h % 4294967296) 0 = true := isF_iff.2 ⟨h1, h2, Int.le_refl _, by have := hr.h; omega⟩
  unfold shape_words_taken.f
  rw [e, at_some hr hl hf]
  exact ⟨_, rfl⟩
theorem marked_tot (hr : R7 T S C H K V L) (hl : (l.length : Int) = lenI T S C H) {h lev : Int} (h1 : 0 ≤ h % 4294967296) (h2 : h % 4294967296 ≤ C) (h3 : 0 ≤ lev) (h4 : lev < H) : ∃ r, shape_words_marked.f T S C H K V L l h lev = some r := by
  unfold shape_words_marked.f handle_Marked.f
  rw [at_eq hr hl (isF_lev hr h1 h2 h3 h4)]
  exact ⟨_, rfl⟩
theorem node_l0 (hr : R7 T S C H K V L) (hl : (l.length : Int) = lenI T S C H) {h : Int} (h1 : 0 ≤ h % 4294967296) (h2 : h % 4294967296 ≤ C) (t : Int) (h0 : 0 ≤ t) (ht : t ≤ H) : ∀ (m k : Nat) (x : Int), 0 ≤ x → t - x ≤ m → m < k → ∃ r, shape_words_node.l0 k T S C H K V L l h t x = some r := by
  intro m
  have hH := hr.h
  have hw : IntKind.wrap .i64 t = t := wi64 (by omega) (by omega)
  have hend : ∃ r, ((shape_words_at.f T S C H K V L l (h % 4294967296) 2).bind fun t110_ => (slot_Dead.f t110_).bind fun t112_ => some t112_) = some r := by
    have hf : isF C H (h % 4294967296) 2 = true := isF_iff.2 ⟨h1, h2, by omega, by omega⟩
    rw [at_some hr hl hf]
    unfold slot_Dead.f
    exact ⟨_, rfl⟩
  induction m with
  | zero =>
    intro k x hx hm hk
    cases k with
    | zero => omega
    | succ k =>
      rw [shape_words_node.l0, hw, if_neg (by omega)]
      exact hend
  | succ m ih =>
    intro k x hx hm hk
    cases k with
    | zero => omega
    | succ k =>
      rw [shape_words_node.l0, hw]
      by_cases hlt : x < t
      · rw [if_pos hlt]
        obtain ⟨r, e⟩ := marked_tot hr hl h1 h2 hx (show x < H by omega)
        have e2 : IntKind.wrap .i64 (x + 1) = x + 1 := wi64 (by omega) (by omega)
        rw [e, e2]
        simp only [Option.bind_some]
        split
        · exact ih k (x + 1) (by omega) (by omega) (by omega)
        · exact ⟨_, rfl⟩
      · rw [if_neg hlt]
        exact hend
theorem node_tot {k : Nat} (hk : 1000 ≤ k) {lev : Int} (hok : okB T S C H K V L l lev = true) {h : Int} (h1 : 0 ≤ h % 4294967296) (h2 : h % 4294967296 ≤ C) : ∃ r, shape_words_node.f k T S C H K V L l h lev = some r := by
  obtain ⟨hr, hl, h3, h4, hp⟩ := okB_iff.1 hok
  have hH := hr.h
  have hf : isF C H (h % 4294967296) 4 = true := isF_iff.2 ⟨h1, h2, by omega, by omega⟩
  obtain ⟨tk, etk⟩ := taken_tot hr hl h1 h2
  obtain ⟨mk, emk⟩ := marked_tot hr hl h1 h2 h3 h4
  unfold shape_words_node.f
  rw [at_some hr hl hf, etk, emk, wu64 (n := lev) (by omega) (by omega), wu64 (n := H) (by omega) (by omega), wi64 (n := lev + 1) (by omega) (by omega), wi64 (n := lev - 1) (by omega) (by omega), Level_is hk T S C H K V L l hp]
  simp only [Option.bind_some]
  have hrest : ∀ t, 0 ≤ t → t ≤ H → ∃ r, (if mk = true then shape_words_node.l0 k T S C H K V L l h t (lev + 1) else ((if lev = 0 then some true else (slices_Contains_uint64_uint64.f k (if okB T S C H K V L l (lev - 1) = true then (lvlF T S C H K V L l (lev - 1)).map (·.2) else []) h).bind fun t67_ => some t67_) : Option Bool).bind fun j58_ => some j58_) = some r := by
    intro t ht0 ht
    cases mk with
    | true => exact node_l0 hr hl h1 h2 t ht0 ht 10 k (lev + 1) (by omega) (by omega) (by omega)
    | false =>
      by_cases h0 : lev = 0
      · rw [if_neg (by decide), if_pos h0]; exact ⟨_, rfl⟩
      · rw [if_neg (by decide), if_neg h0]
        have hb : (if okB T S C H K V L l (lev - 1) = true then (lvlF T S C H K V L l (lev - 1)).map (·.2) else []).length ≤ 100 := by
          split
          · rename_i hk2
            have := lvl_len hk2
            rw [List.length_map]; omega
          · simp
        obtain ⟨c, ec⟩ := contains_tot hk hb h
        rw [ec]
        exact ⟨_, rfl⟩
  have hpos : 0 ≤ rd l (cellI T S H (h % 4294967296) 4) := by
    unfold rd
    rw [List.getD_eq_getElem?_getD]
    cases e : l[(cellI T S H (h % 4294967296) 4).toNat]? with
    | none => exact Int.le_refl _
    | some v => exact hp v (List.mem_of_getElem? e)
  cases tk with
  | false => exact ⟨false, rfl⟩
  | true =>
    rw [if_pos rfl]
    by_cases ha : rd l (cellI T S H (h % 4294967296) 4) ≤ lev
    · rw [if_pos ha]; exact ⟨false, rfl⟩
    · rw [if_neg ha]
      by_cases hb : rd l (cellI T S H (h % 4294967296) 4) > H
      · rw [decide_eq_true hb]; exact ⟨false, rfl⟩
      · rw [decide_eq_false hb]
        exact hrest _ hpos (by omega)
end
theorem shape_words_right_tot0 (k : Nat) (T S C H K V L : Int) (l : List Int) (lev : Int) (hfu : 1000 ≤ k) (hok : okB T S C H K V L l lev = true) (r : Bool) : ∀ x ∈ lvlF T S C H K V L l lev, ∀ s : Int × Int, True → ∃ r', shape_words_right.b0 k T S C H K V L l lev (fun _ => some r) x.1 x.2 s = some r' := by
  intro x hx s _
  obtain ⟨h1, h2, h3, h4⟩ := lvl_mem hx
  obtain ⟨hr, hl, h5, h6, hp⟩ := okB_iff.1 hok
  have hH := hr.h
  have hf : isF C H (x.2 % 4294967296) 1 = true := isF_iff.2 ⟨by omega, h4, by omega, by omega⟩
  obtain ⟨q, eq_⟩ := node_tot hfu hok (show 0 ≤ x.2 % 4294967296 by omega) h4
  obtain ⟨s1, s2⟩ := s
  unfold shape_words_right.b0
  simp only []
  rw [at_some hr hl hf, at_eq hr hl (isF_lev hr (show 0 ≤ x.2 % 4294967296 by omega) h4 h5 h6), eq_]
  simp only [Option.bind_some]
  have hj : ∃ j, (if x.1 = 0 then some true else some (decide (s1 < rd l (cellI T S H (x.2 % 4294967296) 1)))) = some j := by split <;> exact ⟨_, rfl⟩
  obtain ⟨j, ej⟩ := hj
  rw [ej]
  simp only [Option.bind_some]
  have hk2 : ∃ j2, (if x.1 ≥ C then some true else if j = true then some (!q) else some true) = some j2 := by
    split
    · exact ⟨_, rfl⟩
    · split <;> exact ⟨_, rfl⟩
  obtain ⟨j2, ej2⟩ := hk2
  rw [ej2]
  simp only [Option.bind_some]
  split <;> exact ⟨_, rfl⟩
set_option maxRecDepth 100000 in
set_option maxHeartbeats 4000000 in
theorem shape_words_right_con (k : Nat) (a0_0 : Int) (a0_1 : Int) (a0_2 : Int) (a0_3 : Int) (a0_4 : Int) (a0_5 : Int) (a0_6 : Int) (A0_7 : Option Addr) (c0_7 : Nat) (l0_7 : List Int) (a1 : Int) (r0 : Bool) (h : shape_words_right.f k a0_0 a0_1 a0_2 a0_3 a0_4 a0_5 a0_6 l0_7 a1 = some r0) (w0 : World) (Hs : List Nat) : Con Try.prog 43 #[.agg #[.int .i64 a0_0, .int .i64 a0_1, .int .i64 a0_2, .int .i64 a0_3, .int .i64 a0_4, .int .i64 a0_5, .int .i64 a0_6, .slice A0_7 l0_7.length c0_7], .int .i64 a1] w0 Hs [.f (KC (Kd.int .u64) A0_7 c0_7 l0_7)] (fun X => X (.bool r0) []) := by
 refine con_enterM (c := bodyOf Try.f43) (k := 9) Try.func43 rfl (m := 60) rfl rfl rfl ?_
 intro X hX _
 refine c_knowT (φ := DefOK []) DefOK.nil ?_
 have H := h
 unfold shape_words_right.f at H
 clear h
 refine c_seq rfl ?_
 refine r_ord (l := [0, 1, 2]) rfl (by kernel_rfl) (by kernel_rfl) ?_
 refine s_e rfl rfl (e_box rfl rfl rfl rfl) ?_
 intro b4_
 refine s_e rfl rfl (e_box rfl rfl rfl rfl) ?_
 intro b5_
 refine s_e rfl rfl (e_alloc rfl rfl rfl ZR4) ?_
 intro b6_
 refine s_end ?_
 refine q_seq ?_
 refine c_seq rfl ?_
 refine r_ord (l := [0, 1, 2, 3, 4, 5]) rfl (by kernel_rfl) (by kernel_rfl) ?_
 refine s_v rfl rfl rfl rfl (v_ldA [.int .i64 a0_0, .int .i64 a0_1, .int .i64 a0_2, .int .i64 a0_3, .int .i64 a0_4, .int .i64 a0_5, .int .i64 a0_6, .slice A0_7 l0_7.length c0_7] 2 rfl Try.underlying63 rfl SZ63 rfl rfl rfl rfl) ?_
 refine s_v rfl rfl rfl rfl (v_ld 1 rfl Try.underlying3 rfl rfl rfl rfl) ?_
 refine s_v rfl rfl rfl rfl (v_arith rfl rfl rfl rfl) ?_
 obtain ⟨t10_, e11_, H⟩ := bind_s H
 refine s_e rfl rfl (e_callF [4] #[.agg #[.int .i64 a0_0, .int .i64 a0_1, .int .i64 a0_2, .int .i64 a0_3, .int .i64 a0_4, .int .i64 a0_5, .int .i64 a0_6, .slice A0_7 l0_7.length c0_7], .int .i64 0, .int .i64 (IntKind.wrap .i64 (6 + a1))] rfl rfl rfl rfl rfl Try.func28 rfl (by decide) rfl rfl rfl rfl (fun w ht => shape_words_at_con a0_0 a0_1 a0_2 a0_3 a0_4 a0_5 a0_6 A0_7 c0_7 l0_7 0 (IntKind.wrap .i64 (6 + a1)) t10_ e11_ w _)) ?_
 refine s_e rfl rfl (e_alloc rfl rfl rfl ZR25) ?_
 intro b12_
 refine s_e rfl rfl (e_st 0 rfl rfl SZ25 rfl rfl rfl rfl (blt_lt rfl)) ?_
 refine s_end ?_
 refine q_seq ?_
 refine c_seq rfl ?_
 refine c_seq rfl ?_
 refine r_ord (l := [0, 1]) rfl (by kernel_rfl) (by kernel_rfl) ?_
 refine s_v rfl rfl rfl rfl (v_ld 0 rfl Try.underlying25 rfl rfl rfl rfl) ?_
 obtain ⟨t18_, e19_, H⟩ := bind_s H
 refine s_e rfl rfl (e_callF [] #[.int .u64 t10_] rfl rfl rfl rfl rfl Try.func50 rfl (by decide) rfl rfl rfl rfl (fun w ht => handle_Marked_con t10_ t18_ e19_ w _)) ?_
 refine s_end ?_
 refine q_seq ?_
 rcases Bool.eq_false_or_eq_true t18_ with h20_ | h20_
 subst h20_
 replace H := ite_y rfl H
 refine c_cond1 rfl rfl ?_
 refine c_seq rfl ?_
 refine r_ord (l := [0]) rfl (by kernel_rfl) (by kernel_rfl) ?_
 refine s_e rfl rfl (e_st 1 rfl rfl SZ4 rfl rfl rfl rfl (blt_lt rfl)) ?_
 refine s_end ?_
 refine q_seq ?_
 refine c_ret rfl ?_
 refine q_then_ret ?_
 have e_ := Option.some.inj H
 subst e_
 exact q_retD (Ds := []) 4 rfl List.nodup_nil (fun _ h => (by cases h)) [1] rfl (by decide) (cellsB.cons cellsB.nil) (.inl rfl) rfl (vs := [.bool false]) (.cell 0 rfl Try.underlying4 rfl rfl rfl .nil) (hX)
 subst h20_
 replace H := ite_n (by decide) H
 refine c_cond0 rfl rfl ?_
 refine c_skip rfl ?_
 refine q_seq ?_
 refine c_seq rfl ?_
 refine r_ord (l := [0]) rfl (by kernel_rfl) (by kernel_rfl) ?_
 refine s_e rfl rfl (e_alloc rfl rfl rfl ZR25) ?_
 intro b22_
 refine s_end ?_
 refine q_seq ?_
 refine c_seq rfl ?_
 refine c_seq rfl ?_
 refine r_ord (l := [0, 1, 2]) rfl (by kernel_rfl) (by kernel_rfl) ?_
 refine s_v rfl rfl rfl rfl (v_ldA [.int .i64 a0_0, .int .i64 a0_1, .int .i64 a0_2, .int .i64 a0_3, .int .i64 a0_4, .int .i64 a0_5, .int .i64 a0_6, .slice A0_7 l0_7.length c0_7] 4 rfl Try.underlying63 rfl SZ63 rfl rfl rfl rfl) ?_
 refine s_v rfl rfl rfl rfl (v_ld 3 rfl Try.underlying3 rfl rfl rfl rfl) ?_
 refine s_e rfl rfl (e_callF [] #[.agg #[.int .i64 a0_0, .int .i64 a0_1, .int .i64 a0_2, .int .i64 a0_3, .int .i64 a0_4, .int .i64 a0_5, .int .i64 a0_6, .slice A0_7 l0_7.length c0_7], .int .i64 a1] rfl rfl rfl rfl rfl Try.func26 rfl (by decide) rfl rfl rfl rfl (fun w ht => level_con a0_0 a0_1 a0_2 a0_3 a0_4 a0_5 a0_6 A0_7 l0_7.length c0_7 a1 w _)) ?_
 intro b25_ b26_
 refine s_end ?_
 refine q_seq ?_
 refine c_block rfl ?_
 obtain ⟨n27_, H⟩ := ite_no H
 obtain ⟨n28_, H⟩ := ite_no H
 obtain ⟨κ_, hκ_, H⟩ := rng_intro H
 refine c_rangeD (N := (lvlF a0_0 a0_1 a0_2 a0_3 a0_4 a0_5 a0_6 l0_7 a1).length) (S := fun ys => ys = (lvlF a0_0 a0_1 a0_2 a0_3 a0_4 a0_5 a0_6 l0_7 a1).attach) (Sp := fun pre => pre <+: (lvlF a0_0 a0_1 a0_2 a0_3 a0_4 a0_5 a0_6 l0_7 a1).attach) (fun x : {p : Int × Int // p ∈ (lvlF a0_0 a0_1 a0_2 a0_3 a0_4 a0_5 a0_6 l0_7 a1)} => #[Value.int .i64 x.1.1, Value.int .u64 x.1.2]) (gf := 57) (lb := [.pointer (some ⟨b25_, 0, none⟩), .pointer (some ⟨b26_, 0, none⟩)]) (ps := #[20, 21]) [2, 3, 4] [0, 1, 5, 6, 7, 8] (fun pre (s_ : Int × Int) => match s_ with | (x61_, x62_) => (pre <+: (lvlF a0_0 a0_1 a0_2 a0_3 a0_4 a0_5 a0_6 l0_7 a1).attach → rng (shape_words_right.b0 k a0_0 a0_1 a0_2 a0_3 a0_4 a0_5 a0_6 l0_7 a1) ((lvlF a0_0 a0_1 a0_2 a0_3 a0_4 a0_5 a0_6 l0_7 a1).drop pre.length) κ_ (x61_, x62_) = some r0)) (fun pre c_ (s_ : Int × Int) => match s_ with | (x61_, x62_) => c_ = .ret ∧ (pre <+: (lvlF a0_0 a0_1 a0_2 a0_3 a0_4 a0_5 a0_6 l0_7 a1).attach → false = r0)) (fun s_ : Int × Int => match s_ with | (x61_, x62_) => [.b b22_ (.cells #[.int .u64 x61_] 25 (0, 0)), .b b12_ (.cells #[.int .u64 x62_] 25 (0, 0)), .b b6_ (.cells #[.bool false] 4 (0, 0))]) (fun x => [(8, .int .u64 x.1.2), (7, .int .i64 x.1.1), (21, .int .u64 x.1.2), (20, .int .i64 x.1.1)]) (0, t10_) rfl rfl rfl (fun _ => rfl) (by decide) Try.func57 rfl (by decide) rfl rfl (by decide) ?_ (fun _ => H) rfl ?_ ?_ ?_ ?_ ?_
 rintro ⟨x61_, x62_⟩ e he
 simp only [List.mem_cons, List.not_mem_nil, or_false] at he
 rcases he with rfl | rfl | rfl
 exact .inl ⟨_, _, _, rfl⟩
 exact .inl ⟨_, _, _, rfl⟩
 exact .inl ⟨_, _, _, rfl⟩
 intro w ht
 refine lvl_stops _ (by decide) b25_ b26_ _ a0_0 a0_1 a0_2 a0_3 a0_4 a0_5 a0_6 A0_7 c0_7 l0_7 a1 n27_ w (ht.at_ _ _ (List.mem_of_getElem? (i := 0) rfl)) (ht.at_ _ _ (List.mem_of_getElem? (i := 1) rfl)) ?_ ?_ ((ht.facts _ (List.mem_of_getElem? (i := 8) rfl)).mono ?_)
 exact tri_disj ht (i := 0) rfl (idx := [2, 3, 4]) rfl (by decide)
 exact tri_disj ht (i := 1) rfl (idx := [2, 3, 4]) rfl (by decide)
 exact fun x hx _ => List.mem_append_right _ (pick_ids (idx := [2, 3, 4]) rfl x hx)
 rintro lv_ ⟨⟨x29_, x30_⟩, hx_⟩ a_ W_ K_ hf_ hk_
 refine assign_one (F1 := [(8, .int .u64 x30_), (7, .int .i64 x29_), (21, .int .u64 x30_), (20, .int .i64 x29_)] ++ _) (fr_params2 hf_ rfl rfl) hk_ ?_
 refine c_seq rfl ?_
 refine r_ord (l := [0]) rfl (by kernel_rfl) (by kernel_rfl) ?_
 refine s_v rfl rfl rfl rfl (v_assign rfl rfl) ?_
 refine s_end ?_
 refine q_seq ?_
 refine r_ord (l := [0]) rfl (by kernel_rfl) (by kernel_rfl) ?_
 refine s_v rfl rfl rfl rfl (v_assign rfl rfl) ?_
 refine s_end ?_
 exact q_assigned (fun _ _ h => h)
 rintro lv_ pre_ ⟨⟨x29_, x30_⟩, hx_⟩ ⟨x61_, x62_⟩ W_ hI_ hlen_
 clear H
 obtain ⟨κ2_, r2_, H, hk_, hr_⟩ := rng_step (shape_words_right_tot0 k a0_0 a0_1 a0_2 a0_3 a0_4 a0_5 a0_6 l0_7 a1 n28_ n27_ r0) pre_ ⟨(x29_, x30_), hx_⟩ (x61_, x62_) trivial hI_
 unfold shape_words_right.b0 at H
 refine c_block rfl ?_
 refine c_seq rfl ?_
 refine r_ord (l := [0, 1, 2]) rfl (by kernel_rfl) (by kernel_rfl) ?_
 refine s_v rfl rfl rfl rfl (v_move rfl rfl) ?_
 refine s_e rfl rfl (e_callF [] #[.int .u64 x30_] rfl rfl rfl rfl rfl Try.func27 rfl (by decide) rfl rfl rfl rfl (fun w ht => handle_Index_con x30_ w _)) ?_
 refine s_v rfl rfl rfl rfl (v_assign rfl rfl) ?_
 refine s_end ?_
 refine q_seq ?_
 obtain ⟨j96_, e97_, H⟩ := bind_s H
 refine c_join (β := Unit) (fun _ => True) (fun _ => [(2, .pointer (some ⟨b4_, 0, none⟩)), (3, .pointer (some ⟨b5_, 0, none⟩)), (4, .pointer (some ⟨b6_, 0, none⟩)), (5, .pointer (some ⟨b12_, 0, none⟩)), (6, .pointer (some ⟨b22_, 0, none⟩)), (7, .int .i64 x29_), (8, .int .u64 x30_), (9, .int .i64 (x30_ % 4294967296)), (10, .bool j96_)]) (fun _ => [.b b22_ (.cells #[.int .u64 x61_] 25 (0, 0)), .b b12_ (.cells #[.int .u64 x62_] 25 (0, 0)), .b b6_ (.cells #[.bool false] 4 (0, 0)), .f (fun w => w.heap[b25_]? = some (.cells #[.int .i64 a0_0, .int .i64 a0_1, .int .i64 a0_2, .int .i64 a0_3, .int .i64 a0_4, .int .i64 a0_5, .int .i64 a0_6, .slice A0_7 l0_7.length c0_7] 63 (0, 0))), .f (fun w => w.heap[b26_]? = some (.cells #[.int .i64 a1] 3 (0, 0))), .f (fun w => w.heap[b5_]? = some (.cells #[.int .i64 a1] 3 (0, 0))), .f (fun w => w.heap[b4_]? = some (.cells #[.int .i64 a0_0, .int .i64 a0_1, .int .i64 a0_2, .int .i64 a0_3, .int .i64 a0_4, .int .i64 a0_5, .int .i64 a0_6, .slice A0_7 l0_7.length c0_7] 63 (0, 0))), .f (DefOK []), .f (KC (Kd.int .u64) A0_7 c0_7 l0_7)]) rfl (fun _ _ => ?_) (fun J_ => ?_)
 refine c_seq rfl ?_
 obtain ⟨j117_, e118_, H⟩ := bind_s H
 refine c_join (β := Unit) (fun _ => True) (fun _ => [(2, .pointer (some ⟨b4_, 0, none⟩)), (3, .pointer (some ⟨b5_, 0, none⟩)), (4, .pointer (some ⟨b6_, 0, none⟩)), (5, .pointer (some ⟨b12_, 0, none⟩)), (6, .pointer (some ⟨b22_, 0, none⟩)), (9, .int .i64 (x30_ % 4294967296)), (48, .bool j117_)]) (fun _ => [.b b22_ (.cells #[.int .u64 x61_] 25 (0, 0)), .b b12_ (.cells #[.int .u64 x62_] 25 (0, 0)), .b b6_ (.cells #[.bool false] 4 (0, 0)), .f (fun w => w.heap[b25_]? = some (.cells #[.int .i64 a0_0, .int .i64 a0_1, .int .i64 a0_2, .int .i64 a0_3, .int .i64 a0_4, .int .i64 a0_5, .int .i64 a0_6, .slice A0_7 l0_7.length c0_7] 63 (0, 0))), .f (fun w => w.heap[b26_]? = some (.cells #[.int .i64 a1] 3 (0, 0))), .f (fun w => w.heap[b5_]? = some (.cells #[.int .i64 a1] 3 (0, 0))), .f (fun w => w.heap[b4_]? = some (.cells #[.int .i64 a0_0, .int .i64 a0_1, .int .i64 a0_2, .int .i64 a0_3, .int .i64 a0_4, .int .i64 a0_5, .int .i64 a0_6, .slice A0_7 l0_7.length c0_7] 63 (0, 0))), .f (DefOK []), .f (KC (Kd.int .u64) A0_7 c0_7 l0_7)]) rfl (fun _ _ => ?_) (fun J_ => ?_)
 rcases Bool.eq_false_or_eq_true j117_ with h119_ | h119_
 subst h119_
 replace H := ite_y rfl H
 refine c_cond1 rfl rfl ?_
 refine c_seq rfl ?_
 refine r_ord (l := [0]) rfl (by kernel_rfl) (by kernel_rfl) ?_
 refine s_e rfl rfl (e_st 2 rfl rfl SZ4 rfl rfl rfl rfl (blt_lt rfl)) ?_
 refine s_end ?_
 refine q_seq ?_
 refine c_ret rfl ?_
 refine q_then_ret ?_
 refine q_block_ret ?_
 exact q_round_ret (x61_, x62_) [0, 1, 2] rfl rfl (by decide) ⟨rfl, fun h => (Option.some.inj H).trans (hr_ h)⟩
 subst h119_
 replace H := ite_n (by decide) H
 refine c_cond0 rfl rfl ?_
 refine c_skip rfl ?_
 refine q_seq ?_
 obtain ⟨t120_, e121_, H⟩ := bind_s H
 obtain ⟨t122_, e123_, H⟩ := bind_s H
 refine r_any [.b b6_ (.cells #[.bool false] 4 (0, 0)), .f (fun w => w.heap[b25_]? = some (.cells #[.int .i64 a0_0, .int .i64 a0_1, .int .i64 a0_2, .int .i64 a0_3, .int .i64 a0_4, .int .i64 a0_5, .int .i64 a0_6, .slice A0_7 l0_7.length c0_7] 63 (0, 0))), .f (fun w => w.heap[b26_]? = some (.cells #[.int .i64 a1] 3 (0, 0))), .f (fun w => w.heap[b5_]? = some (.cells #[.int .i64 a1] 3 (0, 0))), .f (fun w => w.heap[b4_]? = some (.cells #[.int .i64 a0_0, .int .i64 a0_1, .int .i64 a0_2, .int .i64 a0_3, .int .i64 a0_4, .int .i64 a0_5, .int .i64 a0_6, .slice A0_7 l0_7.length c0_7] 63 (0, 0))), .f (DefOK []), .f (KC (Kd.int .u64) A0_7 c0_7 l0_7)] (by kernel_rfl) rfl (by kernel_rfl) (mem_pick (idx := [2, 3, 4, 5, 6, 7, 8]) rfl) ?_
 refine a_v 0 rfl (by kernel_rfl) (by kernel_rfl) (by kernel_rfl) rfl rfl rfl (v_ldAr [.int .i64 a0_0, .int .i64 a0_1, .int .i64 a0_2, .int .i64 a0_3, .int .i64 a0_4, .int .i64 a0_5, .int .i64 a0_6, .slice A0_7 l0_7.length c0_7] 4 rfl Try.underlying63 rfl SZ63 rfl rfl rfl rfl) ?_
 refine a_v 1 rfl (by kernel_rfl) (by kernel_rfl) (by kernel_rfl) rfl rfl rfl (v_move rfl rfl) ?_
 refine a_v 3 rfl (by kernel_rfl) (by kernel_rfl) (by kernel_rfl) rfl rfl rfl (v_ldAr [.int .i64 a0_0, .int .i64 a0_1, .int .i64 a0_2, .int .i64 a0_3, .int .i64 a0_4, .int .i64 a0_5, .int .i64 a0_6, .slice A0_7 l0_7.length c0_7] 4 rfl Try.underlying63 rfl SZ63 rfl rfl rfl rfl) ?_
 refine a_v 4 rfl (by kernel_rfl) (by kernel_rfl) (by kernel_rfl) rfl rfl rfl (v_move rfl rfl) ?_
 refine a_v 5 rfl (by kernel_rfl) (by kernel_rfl) (by kernel_rfl) rfl rfl rfl (v_ldr 3 rfl Try.underlying3 rfl rfl rfl rfl) ?_
 refine a_v 6 rfl (by kernel_rfl) (by kernel_rfl) (by kernel_rfl) rfl rfl rfl (v_arith rfl rfl rfl rfl) ?_
 refine a_1 (i := 2) (by kernel_rfl) ?_
 refine i_e rfl rfl (e_callF [8] #[.agg #[.int .i64 a0_0, .int .i64 a0_1, .int .i64 a0_2, .int .i64 a0_3, .int .i64 a0_4, .int .i64 a0_5, .int .i64 a0_6, .slice A0_7 l0_7.length c0_7], .int .i64 (x30_ % 4294967296), .int .i64 1] rfl rfl rfl rfl rfl Try.func28 rfl (by decide) rfl rfl rfl rfl (fun w ht => shape_words_at_con a0_0 a0_1 a0_2 a0_3 a0_4 a0_5 a0_6 A0_7 c0_7 l0_7 (x30_ % 4294967296) 1 t120_ e121_ w _)) ?_
 refine ⟨(mem_pick (idx := [2, 3, 4, 5, 6, 7, 8]) rfl), ?_⟩
 refine a_1 (i := 7) (by kernel_rfl) ?_
 refine i_e rfl rfl (e_callF [8] #[.agg #[.int .i64 a0_0, .int .i64 a0_1, .int .i64 a0_2, .int .i64 a0_3, .int .i64 a0_4, .int .i64 a0_5, .int .i64 a0_6, .slice A0_7 l0_7.length c0_7], .int .i64 (x30_ % 4294967296), .int .i64 (IntKind.wrap .i64 (6 + a1))] rfl rfl rfl rfl rfl Try.func28 rfl (by decide) rfl rfl rfl rfl (fun w ht => shape_words_at_con a0_0 a0_1 a0_2 a0_3 a0_4 a0_5 a0_6 A0_7 c0_7 l0_7 (x30_ % 4294967296) (IntKind.wrap .i64 (6 + a1)) t122_ e123_ w _)) ?_
 refine ⟨(mem_pick (idx := [2, 3, 4, 5, 6, 7, 8]) rfl), ?_⟩
 refine a_1 (i := 8) (by kernel_rfl) ?_
 refine i_e rfl rfl (e_st 0 rfl rfl SZ25 rfl rfl rfl rfl (blt_lt rfl)) ?_
 refine ⟨(mem_pick (idx := [2, 3, 4, 5, 6, 7, 8]) rfl), ?_⟩
 refine a_1 (i := 9) (by kernel_rfl) ?_
 refine i_e rfl rfl (e_st 1 rfl rfl SZ25 rfl rfl rfl rfl (blt_lt rfl)) ?_
 refine ⟨(mem_pick (idx := [2, 3, 4, 5, 6, 7, 8]) rfl), ?_⟩
 refine a_end (by kernel_rfl) ?_
 refine q_block ?_
 exact q_round (t120_, t122_) [0, 1, 2] rfl rfl (by decide) (hk_ _ H)
 clear H
 have H := e118_
 clear e118_
 refine r_ord (l := [0, 1, 2, 3, 4, 5, 6, 7, 8, 9, 10, 11, 12, 13, 14, 15]) rfl (by kernel_rfl) (by kernel_rfl) ?_
 refine s_v rfl rfl rfl rfl (v_move rfl rfl) ?_
 refine s_v rfl rfl rfl rfl (v_fa rfl Try.underlying63 rfl SZ23 rfl) ?_
 refine s_v rfl rfl rfl rfl (v_fa rfl Try.underlying23 rfl SZ3 rfl) ?_
 refine s_v rfl rfl rfl rfl (v_ldr 6 rfl Try.underlying3 rfl rfl rfl rfl) ?_
 refine s_v rfl rfl rfl rfl (v_arith rfl rfl rfl rfl) ?_
 refine s_v rfl rfl rfl rfl (v_move rfl rfl) ?_
 rcases Bool.eq_false_or_eq_true (decide ((x29_ : Int) ≥ a0_2)) with h124_ | h124_
 replace H := ite_y (dec_t h124_) H
 refine s_splitv (d := 38) (t := decide ((x29_ : Int) ≥ a0_2)) rfl (fun _ => ?_) (fun h125_ => absurd (h125_.symm.trans h124_) (by decide))
 refine s_no rfl rfl rfl rfl ?_
 refine s_no rfl rfl rfl rfl ?_
 refine s_v rfl rfl rfl rfl (v_pick rfl rfl rfl rfl) ?_
 refine s_v rfl rfl rfl rfl (v_move rfl rfl) ?_
 refine s_no rfl rfl rfl rfl ?_
 refine s_no rfl rfl rfl rfl ?_
 refine s_no rfl rfl rfl rfl ?_
 refine s_no rfl rfl rfl rfl ?_
 refine s_no rfl rfl rfl rfl ?_
 refine s_v rfl rfl rfl rfl (v_pick rfl rfl rfl rfl) ?_
 refine s_end ?_
 have hq_0 := Option.some.inj H
 subst hq_0
 exact q_seq (c_frame (subF_spec (by exact ⟨rfl, rfl, rfl, rfl, rfl, rfl, rfl, trivial⟩)) (c_take [0, 1, 2, 3, 4, 5, 6, 7, 8] rfl (by decide) (J_ () trivial)))
 replace H := ite_n (dec_f h124_) H
 refine s_splitv (d := 38) (t := decide ((x29_ : Int) ≥ a0_2)) rfl (fun h126_ => absurd (h126_.symm.trans h124_) (by decide)) (fun _ => ?_)
 refine s_vg rfl rfl rfl rfl (v_move rfl rfl) ?_
 refine s_vg rfl rfl rfl rfl (v_not rfl rfl) ?_
 refine s_v rfl rfl rfl rfl (v_pick rfl rfl rfl rfl) ?_
 refine s_v rfl rfl rfl rfl (v_move rfl rfl) ?_
 rcases Bool.eq_false_or_eq_true (!j96_) with h127_ | h127_
 replace H := ite_n (not_t (bnot_t h127_)) H
 refine s_splitv (d := 42) (t := !j96_) rfl (fun _ => ?_) (fun h128_ => absurd (h128_.symm.trans h127_) (by decide))
 refine s_no rfl rfl rfl rfl ?_
 refine s_no rfl rfl rfl rfl ?_
 refine s_no rfl rfl rfl rfl ?_
 refine s_no rfl rfl rfl rfl ?_
 refine s_no rfl rfl rfl rfl ?_
 refine s_v rfl rfl rfl rfl (v_pick rfl rfl rfl rfl) ?_
 refine s_end ?_
 have hq_0 := Option.some.inj H
 subst hq_0
 exact q_seq (c_frame (subF_spec (by exact ⟨rfl, rfl, rfl, rfl, rfl, rfl, rfl, trivial⟩)) (c_take [0, 1, 2, 3, 4, 5, 6, 7, 8] rfl (by decide) (J_ () trivial)))
 replace H := ite_y (bnot_f h127_) H
 refine s_splitv (d := 42) (t := !j96_) rfl (fun h129_ => absurd (h129_.symm.trans h127_) (by decide)) (fun _ => ?_)
 refine s_vg rfl rfl rfl rfl (v_ldAr [.int .i64 a0_0, .int .i64 a0_1, .int .i64 a0_2, .int .i64 a0_3, .int .i64 a0_4, .int .i64 a0_5, .int .i64 a0_6, .slice A0_7 l0_7.length c0_7] 6 rfl Try.underlying63 rfl SZ63 rfl rfl rfl rfl) ?_
 refine s_vg rfl rfl rfl rfl (v_move rfl rfl) ?_
 refine s_vg rfl rfl rfl rfl (v_ldr 5 rfl Try.underlying3 rfl rfl rfl rfl) ?_
 obtain ⟨t130_, e131_, H⟩ := bind_s H
 refine s_eg rfl rfl (e_callF [8] #[.agg #[.int .i64 a0_0, .int .i64 a0_1, .int .i64 a0_2, .int .i64 a0_3, .int .i64 a0_4, .int .i64 a0_5, .int .i64 a0_6, .slice A0_7 l0_7.length c0_7], .int .u64 x30_, .int .i64 a1] rfl rfl rfl rfl rfl Try.func67 rfl (by decide) rfl rfl rfl rfl (fun w ht => shape_words_node_con _ a0_0 a0_1 a0_2 a0_3 a0_4 a0_5 a0_6 A0_7 c0_7 l0_7 x30_ a1 t130_ e131_ w _)) ?_
 refine s_vg rfl rfl rfl rfl (v_not rfl rfl) ?_
 refine s_v rfl rfl rfl rfl (v_pick rfl rfl rfl rfl) ?_
 refine s_end ?_
 have hq_0 := Option.some.inj H
 subst hq_0
 exact q_seq (c_frame (subF_spec (by exact ⟨rfl, rfl, rfl, rfl, rfl, rfl, rfl, trivial⟩)) (c_take [0, 1, 2, 3, 4, 5, 6, 7, 8] rfl (by decide) (J_ () trivial)))
 clear H
 have H := e97_
 clear e97_
 rcases Bool.eq_false_or_eq_true ((x29_ : Int) == 0) with h132_ | h132_
 replace H := ite_y (ibeq_t h132_) H
 refine r_any [.b b22_ (.cells #[.int .u64 x61_] 25 (0, 0)), .b b12_ (.cells #[.int .u64 x62_] 25 (0, 0)), .b b6_ (.cells #[.bool false] 4 (0, 0)), .f (fun w => w.heap[b25_]? = some (.cells #[.int .i64 a0_0, .int .i64 a0_1, .int .i64 a0_2, .int .i64 a0_3, .int .i64 a0_4, .int .i64 a0_5, .int .i64 a0_6, .slice A0_7 l0_7.length c0_7] 63 (0, 0))), .f (fun w => w.heap[b26_]? = some (.cells #[.int .i64 a1] 3 (0, 0))), .f (fun w => w.heap[b5_]? = some (.cells #[.int .i64 a1] 3 (0, 0))), .f (fun w => w.heap[b4_]? = some (.cells #[.int .i64 a0_0, .int .i64 a0_1, .int .i64 a0_2, .int .i64 a0_3, .int .i64 a0_4, .int .i64 a0_5, .int .i64 a0_6, .slice A0_7 l0_7.length c0_7] 63 (0, 0))), .f (DefOK []), .f (KC (Kd.int .u64) A0_7 c0_7 l0_7)] (by kernel_rfl) rfl (by kernel_rfl) (mem_pick (idx := [0, 1, 2, 3, 4, 5, 6, 7, 8]) rfl) ?_
 refine a_v 0 rfl (by kernel_rfl) (by kernel_rfl) (by kernel_rfl) rfl rfl rfl (v_move rfl rfl) ?_
 refine a_v 1 rfl (by kernel_rfl) (by kernel_rfl) (by kernel_rfl) rfl rfl rfl (OpV.cast (v := .bool true) (v_arith rfl rfl rfl rfl) (congrArg Value.bool h132_)) ?_
 refine a_v 2 rfl (by kernel_rfl) (by kernel_rfl) (by kernel_rfl) rfl rfl rfl (v_move rfl rfl) ?_
 refine a_no 3 rfl (by kernel_rfl) (by kernel_rfl) (by kernel_rfl) rfl rfl rfl ?_
 refine a_no 4 rfl (by kernel_rfl) (by kernel_rfl) (by kernel_rfl) rfl rfl rfl ?_
 refine a_no 5 rfl (by kernel_rfl) (by kernel_rfl) (by kernel_rfl) rfl rfl rfl ?_
 refine a_no 6 rfl (by kernel_rfl) (by kernel_rfl) (by kernel_rfl) rfl rfl rfl ?_
 refine a_no 7 rfl (by kernel_rfl) (by kernel_rfl) (by kernel_rfl) rfl rfl rfl ?_
 refine a_v 8 rfl (by kernel_rfl) (by kernel_rfl) (by kernel_rfl) rfl rfl rfl (v_pick rfl rfl rfl rfl) ?_
 refine a_v 9 rfl (by kernel_rfl) (by kernel_rfl) (by kernel_rfl) rfl rfl rfl (v_assign rfl rfl) ?_
 refine a_end (by kernel_rfl) ?_
 have hq_0 := Option.some.inj H
 subst hq_0
 exact q_seq (c_frame (subF_spec (by exact ⟨rfl, rfl, rfl, rfl, rfl, rfl, rfl, rfl, rfl, trivial⟩)) (c_take [0, 1, 2, 3, 4, 5, 6, 7, 8] rfl (by decide) (J_ () trivial)))
 replace H := ite_n (ibeq_f h132_) H
 obtain ⟨t133_, e134_, H⟩ := bind_s H
 refine r_any [.b b22_ (.cells #[.int .u64 x61_] 25 (0, 0)), .b b12_ (.cells #[.int .u64 x62_] 25 (0, 0)), .b b6_ (.cells #[.bool false] 4 (0, 0)), .f (fun w => w.heap[b25_]? = some (.cells #[.int .i64 a0_0, .int .i64 a0_1, .int .i64 a0_2, .int .i64 a0_3, .int .i64 a0_4, .int .i64 a0_5, .int .i64 a0_6, .slice A0_7 l0_7.length c0_7] 63 (0, 0))), .f (fun w => w.heap[b26_]? = some (.cells #[.int .i64 a1] 3 (0, 0))), .f (fun w => w.heap[b5_]? = some (.cells #[.int .i64 a1] 3 (0, 0))), .f (fun w => w.heap[b4_]? = some (.cells #[.int .i64 a0_0, .int .i64 a0_1, .int .i64 a0_2, .int .i64 a0_3, .int .i64 a0_4, .int .i64 a0_5, .int .i64 a0_6, .slice A0_7 l0_7.length c0_7] 63 (0, 0))), .f (DefOK []), .f (KC (Kd.int .u64) A0_7 c0_7 l0_7)] (by kernel_rfl) rfl (by kernel_rfl) (mem_pick (idx := [0, 1, 2, 3, 4, 5, 6, 7, 8]) rfl) ?_
 refine a_v 0 rfl (by kernel_rfl) (by kernel_rfl) (by kernel_rfl) rfl rfl rfl (v_move rfl rfl) ?_
 refine a_v 1 rfl (by kernel_rfl) (by kernel_rfl) (by kernel_rfl) rfl rfl rfl (OpV.cast (v := .bool false) (v_arith rfl rfl rfl rfl) (congrArg Value.bool h132_)) ?_
 refine a_v 2 rfl (by kernel_rfl) (by kernel_rfl) (by kernel_rfl) rfl rfl rfl (v_move rfl rfl) ?_
 refine a_v 3 rfl (by kernel_rfl) (by kernel_rfl) (by kernel_rfl) rfl rfl rfl (v_ld 0 rfl Try.underlying25 rfl rfl rfl rfl) ?_
 refine a_v 4 rfl (by kernel_rfl) (by kernel_rfl) (by kernel_rfl) rfl rfl rfl (v_ldAr [.int .i64 a0_0, .int .i64 a0_1, .int .i64 a0_2, .int .i64 a0_3, .int .i64 a0_4, .int .i64 a0_5, .int .i64 a0_6, .slice A0_7 l0_7.length c0_7] 6 rfl Try.underlying63 rfl SZ63 rfl rfl rfl rfl) ?_
 refine a_v 5 rfl (by kernel_rfl) (by kernel_rfl) (by kernel_rfl) rfl rfl rfl (v_move rfl rfl) ?_
 refine a_1 (i := 6) (by kernel_rfl) ?_
 refine i_e rfl rfl (e_callF [8] #[.agg #[.int .i64 a0_0, .int .i64 a0_1, .int .i64 a0_2, .int .i64 a0_3, .int .i64 a0_4, .int .i64 a0_5, .int .i64 a0_6, .slice A0_7 l0_7.length c0_7], .int .i64 (x30_ % 4294967296), .int .i64 1] rfl rfl rfl rfl rfl Try.func28 rfl (by decide) rfl rfl rfl rfl (fun w ht => shape_words_at_con a0_0 a0_1 a0_2 a0_3 a0_4 a0_5 a0_6 A0_7 c0_7 l0_7 (x30_ % 4294967296) 1 t133_ e134_ w _)) ?_
 refine ⟨(mem_pick (idx := [0, 1, 2, 3, 4, 5, 6, 7, 8]) rfl), ?_⟩
 refine a_v 7 rfl (by kernel_rfl) (by kernel_rfl) (by kernel_rfl) rfl rfl rfl (v_arith rfl rfl rfl rfl) ?_
 refine a_v 8 rfl (by kernel_rfl) (by kernel_rfl) (by kernel_rfl) rfl rfl rfl (v_pick rfl rfl rfl rfl) ?_
 refine a_v 9 rfl (by kernel_rfl) (by kernel_rfl) (by kernel_rfl) rfl rfl rfl (v_assign rfl rfl) ?_
 refine a_end (by kernel_rfl) ?_
 have hq_0 := Option.some.inj H
 subst hq_0
 exact q_seq (c_frame (subF_spec (by exact ⟨rfl, rfl, rfl, rfl, rfl, rfl, rfl, rfl, rfl, trivial⟩)) (c_take [0, 1, 2, 3, 4, 5, 6, 7, 8] rfl (by decide) (J_ () trivial)))
 rintro D135_ ys_ ⟨x61_, x62_⟩ hD_ hS_ hI_
 subst hS_
 have H := (hκ_ _).symm.trans (rng_done hI_)
 obtain ⟨hndD135_, hgeD135_⟩ := fresh_D 7 rfl hD_ List.nodup_nil (fun _ h => (by cases h))
 refine q_give [0, 1, 2, 3, 4, 5, 6, 7, 8, 9] rfl (by decide) (by simp [ids, Ent.id?]) (fun w h => h) ?_
 refine q_both 0 8 rfl rfl ?_
 refine q_weak 0 rfl (fun w h => DefOK.cons h) ?_
 refine q_block ?_
 refine q_seq ?_
 refine c_seq rfl ?_
 refine r_ord (l := [0, 1, 2, 3]) rfl (by kernel_rfl) (by kernel_rfl) ?_
 refine s_v rfl rfl rfl rfl (v_ld 4 rfl Try.underlying25 rfl rfl rfl rfl) ?_
 obtain ⟨t140_, e141_, H⟩ := bind_s H
 refine s_e rfl rfl (e_callF [] #[.int .u64 x62_] rfl rfl rfl rfl rfl Try.func68 rfl (by decide) rfl rfl rfl rfl (fun w ht => handle_Valid_con x62_ t140_ e141_ w _)) ?_
 refine s_v rfl rfl rfl rfl (v_not rfl rfl) ?_
 refine s_e rfl rfl (e_st 5 rfl rfl SZ4 rfl rfl rfl rfl (blt_lt rfl)) ?_
 refine s_end ?_
 refine q_seq ?_
 refine c_ret rfl ?_
 have e_ := Option.some.inj H
 subst e_
 exact q_retD (Ds := (D135_ :: [])) 0 rfl hndD135_ hgeD135_ [5] rfl (by decide) (cellsB.cons cellsB.nil) (.inl rfl) rfl (vs := [.bool (!t140_)]) (.cell 0 rfl Try.underlying4 rfl rfl rfl .nil) (hX)
 rintro D135_ c_ pre_ ⟨x61_, x62_⟩ hD_ hS_ hI_
 obtain ⟨rfl, hres_⟩ := hI_
 have hres_ := hres_ hS_
 refine c_ret rfl ?_
 obtain ⟨hndD135_, hgeD135_⟩ := fresh_D 7 rfl hD_ List.nodup_nil (fun _ h => (by cases h))
 refine q_give [0, 1, 2, 3, 4, 5, 6, 7, 8, 9] rfl (by decide) (by simp [ids, Ent.id?]) (fun w h => h) ?_
 refine q_both 0 8 rfl rfl ?_
 refine q_weak 0 rfl (fun w h => DefOK.cons h) ?_
 refine q_block_ret ?_
 refine q_then_ret ?_
 subst hres_
 exact q_retD (Ds := (D135_ :: [])) 0 rfl hndD135_ hgeD135_ [5] rfl (by decide) (cellsB.cons cellsB.nil) (.inl rfl) rfl (vs := [.bool false]) (.cell 0 rfl Try.underlying4 rfl rfl rfl .nil) (hX)
end Go.Eng
namespace Go.Eng
open Go.Proofs Go.RowKit Go.Proofs.YtbonlagecjealaaW.PrintWords Go.Proofs.Ytbonlagecjealaa.GSeq
set_option linter.unusedVariables false
set_option linter.unusedSimpArgs false
def shape_Right.l0 : Nat → Int → Int → Int → Int → Int → Int → Int → List Int → Int → Option Bool
  | 0, _, _, _, _, _, _, _, _, _ => none
  | k + 1, a0_0, a0_1, a0_2, a0_3, a0_4, a0_5, a0_6, l1, x29_ => (if (x29_ : Int) < a0_3 then (shape_words_right.f k a0_0 a0_1 a0_2 a0_3 a0_4 a0_5 a0_6 l1 x29_).bind fun t51_ => (if t51_ = true then shape_Right.l0 k a0_0 a0_1 a0_2 a0_3 a0_4 a0_5 a0_6 l1 (IntKind.wrap .i64 (x29_ + 1)) else some false) else some true)
def shape_Right.f (k : Nat) (a0_0 : Int) (a0_1 : Int) (a0_2 : Int) (a0_3 : Int) (a0_4 : Int) (a0_5 : Int) (a0_6 : Int) (l1 : List Int) : Option Bool := ((shape_words_whole.f a0_0 a0_1 a0_2 a0_3 a0_4 a0_5 a0_6 l1).bind fun t57_ => (if t57_ = true then (shape_words_taken.f a0_0 a0_1 a0_2 a0_3 a0_4 a0_5 a0_6 l1 9223372036854775808).bind fun t60_ => some (!t60_) else some true) : Option Bool).bind fun j18_ => (if j18_ = true then some false else shape_Right.l0 k a0_0 a0_1 a0_2 a0_3 a0_4 a0_5 a0_6 l1 0)
set_option maxRecDepth 100000 in
set_option maxHeartbeats 4000000 in
theorem shape_Right_con (k : Nat) (a0_0 : Int) (a0_1 : Int) (a0_2 : Int) (a0_3 : Int) (a0_4 : Int) (a0_5 : Int) (a0_6 : Int) (A1 : Option Addr) (c1 : Nat) (l1 : List Int) (r0 : Bool) (h : shape_Right.f k a0_0 a0_1 a0_2 a0_3 a0_4 a0_5 a0_6 l1 = some r0) (w0 : World) (Hs : List Nat) : Con Try.prog 17 #[.agg #[.int .i64 a0_0, .int .i64 a0_1, .int .i64 a0_2, .int .i64 a0_3, .int .i64 a0_4, .int .i64 a0_5, .int .i64 a0_6], .slice A1 l1.length c1] w0 Hs [.f (KC (Kd.int .u64) A1 c1 l1)] (fun X => X (.bool r0) []) := by
 refine con_enter (c := bodyOf Try.f17) Try.func17 rfl (m := 29) rfl rfl rfl ?_
 intro X hX _
 have H := h
 unfold shape_Right.f at H
 clear h
 refine c_seq rfl ?_
 refine r_ord (l := [0, 1]) rfl (by kernel_rfl) (by kernel_rfl) ?_
 refine s_e rfl rfl (e_box rfl rfl rfl rfl) ?_
 intro b2_
 refine s_v rfl rfl rfl rfl (v_assign rfl rfl) ?_
 refine s_end ?_
 refine q_seq ?_
 refine c_seq rfl ?_
 refine r_ord (l := [0, 1, 2, 3, 4]) rfl (by kernel_rfl) (by kernel_rfl) ?_
 refine s_v rfl rfl rfl rfl (v_ldA [.int .i64 a0_0, .int .i64 a0_1, .int .i64 a0_2, .int .i64 a0_3, .int .i64 a0_4, .int .i64 a0_5, .int .i64 a0_6] 0 rfl Try.underlying23 rfl SZ23 rfl rfl rfl rfl) ?_
 refine s_v rfl rfl rfl rfl (v_move rfl rfl) ?_
 refine s_v rfl rfl rfl rfl (v_build (places := #[(0, 7), (7, 1)]) #[.int .i64 a0_0, .int .i64 a0_1, .int .i64 a0_2, .int .i64 a0_3, .int .i64 a0_4, .int .i64 a0_5, .int .i64 a0_6, .slice A1 l1.length c1] rfl ZR63 Try.underlying63 (by kernel_rfl) rfl (by kernel_rfl)) ?_
 refine s_e rfl rfl (e_alloc rfl rfl rfl ZR63) ?_
 intro b4_
 refine s_e rfl rfl (e_stA 0 rfl rfl SZ63 rfl rfl rfl rfl rfl rfl) ?_
 refine s_end ?_
 refine q_seq ?_
 refine c_seq rfl ?_
 obtain ⟨j18_, e19_, H⟩ := bind_s H
 refine c_join (β := Unit) (fun _ => True) (fun _ => [(2, .pointer (some ⟨b2_, 0, none⟩)), (4, .bool false), (5, .pointer (some ⟨b4_, 0, none⟩)), (18, .bool j18_)]) (fun _ => [.b b4_ (.cells #[.int .i64 a0_0, .int .i64 a0_1, .int .i64 a0_2, .int .i64 a0_3, .int .i64 a0_4, .int .i64 a0_5, .int .i64 a0_6, .slice A1 l1.length c1] 63 (0, 0)), .b b2_ (.cells #[.int .i64 a0_0, .int .i64 a0_1, .int .i64 a0_2, .int .i64 a0_3, .int .i64 a0_4, .int .i64 a0_5, .int .i64 a0_6] 23 (0, 0)), .f (KC (Kd.int .u64) A1 c1 l1)]) rfl (fun _ _ => ?_) (fun J_ => ?_)
 rcases Bool.eq_false_or_eq_true j18_ with h20_ | h20_
 subst h20_
 replace H := ite_y rfl H
 refine c_cond1 rfl rfl ?_
 refine c_seq rfl ?_
 refine r_ord (l := [0]) rfl (by kernel_rfl) (by kernel_rfl) ?_
 refine s_v rfl rfl rfl rfl (v_assign rfl rfl) ?_
 refine s_end ?_
 refine q_seq ?_
 refine c_ret rfl ?_
 refine q_then_ret ?_
 have e_ := Option.some.inj H
 subst e_
 exact q_ret (vs := [.bool false]) rfl (.tmp rfl .nil) [] rfl (by decide) (hX)
 subst h20_
 replace H := ite_n (by decide) H
 refine c_cond0 rfl rfl ?_
 refine c_skip rfl ?_
 refine q_seq ?_
 refine c_seq rfl ?_
 refine c_seq rfl ?_
 refine r_ord (l := [0, 1, 2]) rfl (by kernel_rfl) (by kernel_rfl) ?_
 refine s_v rfl rfl rfl rfl (v_fa rfl Try.underlying23 rfl SZ3 rfl) ?_
 refine s_v rfl rfl rfl rfl (v_ld 1 rfl Try.underlying3 rfl rfl rfl rfl) ?_
 refine s_v rfl rfl rfl rfl (v_move rfl rfl) ?_
 refine s_end ?_
 refine q_seq ?_
 refine c_block rfl ?_
 refine c_loop (σ := Nat × Int) (fun s_ : Nat × Int => match s_ with | (k, x29_) => shape_Right.l0 k a0_0 a0_1 a0_2 a0_3 a0_4 a0_5 a0_6 l1 x29_ = some r0) (fun s_ : Nat × Int => match s_ with | (k, x29_) => k) (fun s_ : Nat × Int => match s_ with | (k, x29_) => [(4, .bool false), (5, .pointer (some ⟨b4_, 0, none⟩)), (20, .int .i64 a0_3), (21, .int .i64 x29_)]) (fun s_ : Nat × Int => match s_ with | (k, x29_) => [.b b4_ (.cells #[.int .i64 a0_0, .int .i64 a0_1, .int .i64 a0_2, .int .i64 a0_3, .int .i64 a0_4, .int .i64 a0_5, .int .i64 a0_6, .slice A1 l1.length c1] 63 (0, 0)), .b b2_ (.cells #[.int .i64 a0_0, .int .i64 a0_1, .int .i64 a0_2, .int .i64 a0_3, .int .i64 a0_4, .int .i64 a0_5, .int .i64 a0_6] 23 (0, 0)), .f (KC (Kd.int .u64) A1 c1 l1)]) (k, 0) [0, 1, 2] rfl H (subF_spec ⟨rfl, rfl, rfl, rfl, trivial⟩) rfl (by decide) ?_
 rintro ⟨k0_, x29_⟩ hs38_
 clear H
 have H : shape_Right.l0 k0_ a0_0 a0_1 a0_2 a0_3 a0_4 a0_5 a0_6 l1 x29_ = some r0 := hs38_
 try clear hs38_
 rcases k0_ with _ | k0_
 exact none_no (show none = _ from H)
 unfold shape_Right.l0 at H
 have hko_0 : k0_ ≤ k0_ := Nat.le_refl _
 refine c_seq rfl ?_
 refine r_ord (l := [0]) rfl (by kernel_rfl) (by kernel_rfl) ?_
 refine s_v rfl rfl rfl rfl (v_arith rfl rfl rfl rfl) ?_
 refine s_end ?_
 refine q_seq ?_
 refine c_seq rfl ?_
 rcases Bool.eq_false_or_eq_true (decide ((x29_ : Int) < a0_3)) with h42_ | h42_
 replace H := ite_y (dec_t h42_) H
 refine c_cond rfl rfl (fun _ => ?_) (fun h43_ => absurd (h43_.symm.trans h42_) (by decide))
 refine c_skip rfl ?_
 refine q_seq ?_
 refine c_seq rfl ?_
 refine c_block rfl ?_
 refine c_seq rfl ?_
 refine r_ord (l := [0, 1]) rfl (by kernel_rfl) (by kernel_rfl) ?_
 refine s_v rfl rfl rfl rfl (v_move rfl rfl) ?_
 refine s_v rfl rfl rfl rfl (v_assign rfl rfl) ?_
 refine s_end ?_
 refine q_seq ?_
 refine c_seq rfl ?_
 refine r_ord (l := [0, 1, 2, 3]) rfl (by kernel_rfl) (by kernel_rfl) ?_
 refine s_v rfl rfl rfl rfl (v_ldA [.int .i64 a0_0, .int .i64 a0_1, .int .i64 a0_2, .int .i64 a0_3, .int .i64 a0_4, .int .i64 a0_5, .int .i64 a0_6, .slice A1 l1.length c1] 0 rfl Try.underlying63 rfl SZ63 rfl rfl rfl rfl) ?_
 refine s_v rfl rfl rfl rfl (v_move rfl rfl) ?_
 obtain ⟨t51_, e52_, H⟩ := bind_s H
 refine s_e rfl rfl (e_callF [2] #[.agg #[.int .i64 a0_0, .int .i64 a0_1, .int .i64 a0_2, .int .i64 a0_3, .int .i64 a0_4, .int .i64 a0_5, .int .i64 a0_6, .slice A1 l1.length c1], .int .i64 x29_] rfl rfl rfl rfl rfl Try.func43 rfl (by decide) rfl rfl rfl rfl (fun w ht => shape_words_right_con _ a0_0 a0_1 a0_2 a0_3 a0_4 a0_5 a0_6 A1 c1 l1 x29_ t51_ e52_ w _)) ?_
 refine s_v rfl rfl rfl rfl (v_not rfl rfl) ?_
 refine s_end ?_
 refine q_seq ?_
 rcases Bool.eq_false_or_eq_true (!t51_) with h53_ | h53_
 replace H := ite_n (not_t (bnot_t h53_)) H
 refine c_cond rfl rfl (fun _ => ?_) (fun h54_ => absurd (h54_.symm.trans h53_) (by decide))
 refine c_seq rfl ?_
 refine r_ord (l := [0]) rfl (by kernel_rfl) (by kernel_rfl) ?_
 refine s_v rfl rfl rfl rfl (v_assign rfl rfl) ?_
 refine s_end ?_
 refine q_seq ?_
 refine c_ret rfl ?_
 refine q_block_ret ?_
 refine q_then_ret ?_
 refine q_then_ret ?_
 refine q_block_ret ?_
 refine q_then_ret ?_
 have e_ := Option.some.inj H
 subst e_
 exact q_ret (vs := [.bool false]) rfl (.tmp rfl .nil) [] rfl (by decide) (hX)
 replace H := ite_y (bnot_f h53_) H
 refine c_cond rfl rfl (fun h55_ => absurd (h55_.symm.trans h53_) (by decide)) (fun _ => ?_)
 refine c_skip rfl ?_
 refine q_block ?_
 refine q_seq ?_
 refine r_ord (l := [0, 1]) rfl (by kernel_rfl) (by kernel_rfl) ?_
 refine s_v rfl rfl rfl rfl (v_arith rfl rfl rfl rfl) ?_
 refine s_v rfl rfl rfl rfl (v_move rfl rfl) ?_
 refine s_end ?_
 exact q_again (k0_, IntKind.wrap .i64 (x29_ + 1)) [0, 1, 2] H (Nat.lt_succ_of_le hko_0) (subF_spec ⟨rfl, rfl, rfl, rfl, trivial⟩) rfl (by decide)
 replace H := ite_n (dec_f h42_) H
 refine c_cond rfl rfl (fun h56_ => absurd (h56_.symm.trans h42_) (by decide)) (fun _ => ?_)
 refine c_exit (i := 0) rfl rfl ?_
 refine q_then_exit ?_
 refine q_then_exit ?_
 refine q_block_here rfl ?_
 refine q_seq ?_
 refine c_seq rfl ?_
 refine r_ord (l := [0]) rfl (by kernel_rfl) (by kernel_rfl) ?_
 refine s_v rfl rfl rfl rfl (v_assign rfl rfl) ?_
 refine s_end ?_
 refine q_seq ?_
 refine c_ret rfl ?_
 have e_ := Option.some.inj H
 subst e_
 exact q_ret (vs := [.bool true]) rfl (.tmp rfl .nil) [] rfl (by decide) (hX)
 clear H
 have H := e19_
 clear e19_
 obtain ⟨t57_, e58_, H⟩ := bind_s H
 rcases Bool.eq_false_or_eq_true (!t57_) with h59_ | h59_
 replace H := ite_n (not_t (bnot_t h59_)) H
 refine r_any [.b b4_ (.cells #[.int .i64 a0_0, .int .i64 a0_1, .int .i64 a0_2, .int .i64 a0_3, .int .i64 a0_4, .int .i64 a0_5, .int .i64 a0_6, .slice A1 l1.length c1] 63 (0, 0)), .b b2_ (.cells #[.int .i64 a0_0, .int .i64 a0_1, .int .i64 a0_2, .int .i64 a0_3, .int .i64 a0_4, .int .i64 a0_5, .int .i64 a0_6] 23 (0, 0)), .f (KC (Kd.int .u64) A1 c1 l1)] (by kernel_rfl) rfl (by kernel_rfl) (mem_pick (idx := [0, 1, 2]) rfl) ?_
 refine a_v 0 rfl (by kernel_rfl) (by kernel_rfl) (by kernel_rfl) rfl rfl rfl (v_ldA [.int .i64 a0_0, .int .i64 a0_1, .int .i64 a0_2, .int .i64 a0_3, .int .i64 a0_4, .int .i64 a0_5, .int .i64 a0_6, .slice A1 l1.length c1] 0 rfl Try.underlying63 rfl SZ63 rfl rfl rfl rfl) ?_
 refine a_1 (i := 1) (by kernel_rfl) ?_
 refine i_e rfl rfl (e_callF [2] #[.agg #[.int .i64 a0_0, .int .i64 a0_1, .int .i64 a0_2, .int .i64 a0_3, .int .i64 a0_4, .int .i64 a0_5, .int .i64 a0_6, .slice A1 l1.length c1]] rfl rfl rfl rfl rfl Try.func25 rfl (by decide) rfl rfl rfl rfl (fun w ht => shape_words_whole_con a0_0 a0_1 a0_2 a0_3 a0_4 a0_5 a0_6 A1 c1 l1 t57_ e58_ w _)) ?_
 refine ⟨(mem_pick (idx := [0, 1, 2]) rfl), ?_⟩
 refine a_v 2 rfl (by kernel_rfl) (by kernel_rfl) (by kernel_rfl) rfl rfl rfl (OpV.cast (v := .bool true) (v_not rfl rfl) (congrArg Value.bool h59_)) ?_
 refine a_v 3 rfl (by kernel_rfl) (by kernel_rfl) (by kernel_rfl) rfl rfl rfl (v_move rfl rfl) ?_
 refine a_no 4 rfl (by kernel_rfl) (by kernel_rfl) (by kernel_rfl) rfl rfl rfl ?_
 refine a_no 5 rfl (by kernel_rfl) (by kernel_rfl) (by kernel_rfl) rfl rfl rfl ?_
 refine a_no 6 rfl (by kernel_rfl) (by kernel_rfl) (by kernel_rfl) rfl rfl rfl ?_
 refine a_no 7 rfl (by kernel_rfl) (by kernel_rfl) (by kernel_rfl) rfl rfl rfl ?_
 refine a_v 8 rfl (by kernel_rfl) (by kernel_rfl) (by kernel_rfl) rfl rfl rfl (v_pick rfl rfl rfl rfl) ?_
 refine a_end (by kernel_rfl) ?_
 have hq_0 := Option.some.inj H
 subst hq_0
 exact q_seq (c_frame (subF_spec (by exact ⟨rfl, rfl, rfl, rfl, trivial⟩)) (c_take [0, 1, 2] rfl (by decide) (J_ () trivial)))
 replace H := ite_y (bnot_f h59_) H
 obtain ⟨t60_, e61_, H⟩ := bind_s H
 refine r_any [.b b4_ (.cells #[.int .i64 a0_0, .int .i64 a0_1, .int .i64 a0_2, .int .i64 a0_3, .int .i64 a0_4, .int .i64 a0_5, .int .i64 a0_6, .slice A1 l1.length c1] 63 (0, 0)), .b b2_ (.cells #[.int .i64 a0_0, .int .i64 a0_1, .int .i64 a0_2, .int .i64 a0_3, .int .i64 a0_4, .int .i64 a0_5, .int .i64 a0_6] 23 (0, 0)), .f (KC (Kd.int .u64) A1 c1 l1)] (by kernel_rfl) rfl (by kernel_rfl) (mem_pick (idx := [0, 1, 2]) rfl) ?_
 refine a_v 0 rfl (by kernel_rfl) (by kernel_rfl) (by kernel_rfl) rfl rfl rfl (v_ldA [.int .i64 a0_0, .int .i64 a0_1, .int .i64 a0_2, .int .i64 a0_3, .int .i64 a0_4, .int .i64 a0_5, .int .i64 a0_6, .slice A1 l1.length c1] 0 rfl Try.underlying63 rfl SZ63 rfl rfl rfl rfl) ?_
 refine a_1 (i := 1) (by kernel_rfl) ?_
 refine i_e rfl rfl (e_callF [2] #[.agg #[.int .i64 a0_0, .int .i64 a0_1, .int .i64 a0_2, .int .i64 a0_3, .int .i64 a0_4, .int .i64 a0_5, .int .i64 a0_6, .slice A1 l1.length c1]] rfl rfl rfl rfl rfl Try.func25 rfl (by decide) rfl rfl rfl rfl (fun w ht => shape_words_whole_con a0_0 a0_1 a0_2 a0_3 a0_4 a0_5 a0_6 A1 c1 l1 t57_ e58_ w _)) ?_
 refine ⟨(mem_pick (idx := [0, 1, 2]) rfl), ?_⟩
 refine a_v 2 rfl (by kernel_rfl) (by kernel_rfl) (by kernel_rfl) rfl rfl rfl (OpV.cast (v := .bool false) (v_not rfl rfl) (congrArg Value.bool h59_)) ?_
 refine a_v 3 rfl (by kernel_rfl) (by kernel_rfl) (by kernel_rfl) rfl rfl rfl (v_move rfl rfl) ?_
 refine a_v 4 rfl (by kernel_rfl) (by kernel_rfl) (by kernel_rfl) rfl rfl rfl (v_ldA [.int .i64 a0_0, .int .i64 a0_1, .int .i64 a0_2, .int .i64 a0_3, .int .i64 a0_4, .int .i64 a0_5, .int .i64 a0_6, .slice A1 l1.length c1] 0 rfl Try.underlying63 rfl SZ63 rfl rfl rfl rfl) ?_
 refine a_1 (i := 5) (by kernel_rfl) ?_
 refine i_e rfl rfl (e_callF [] #[] rfl rfl rfl rfl rfl Try.func42 rfl (by decide) rfl rfl rfl rfl (fun w ht => plan_Head_con w _)) ?_
 refine ⟨(mem_pick (idx := [0, 1, 2]) rfl), ?_⟩
 refine a_1 (i := 6) (by kernel_rfl) ?_
 refine i_e rfl rfl (e_callF [2] #[.agg #[.int .i64 a0_0, .int .i64 a0_1, .int .i64 a0_2, .int .i64 a0_3, .int .i64 a0_4, .int .i64 a0_5, .int .i64 a0_6, .slice A1 l1.length c1], .int .u64 9223372036854775808] rfl rfl rfl rfl rfl Try.func41 rfl (by decide) rfl rfl rfl rfl (fun w ht => shape_words_taken_con a0_0 a0_1 a0_2 a0_3 a0_4 a0_5 a0_6 A1 c1 l1 9223372036854775808 t60_ e61_ w _)) ?_
 refine ⟨(mem_pick (idx := [0, 1, 2]) rfl), ?_⟩
 refine a_v 7 rfl (by kernel_rfl) (by kernel_rfl) (by kernel_rfl) rfl rfl rfl (v_not rfl rfl) ?_
 refine a_v 8 rfl (by kernel_rfl) (by kernel_rfl) (by kernel_rfl) rfl rfl rfl (v_pick rfl rfl rfl rfl) ?_
 refine a_end (by kernel_rfl) ?_
 have hq_0 := Option.some.inj H
 subst hq_0
 exact q_seq (c_frame (subF_spec (by exact ⟨rfl, rfl, rfl, rfl, trivial⟩)) (c_take [0, 1, 2] rfl (by decide) (J_ () trivial)))
def shape_words_settled.l0 : Nat → Int → Int → Int → Int → Int → Int → Int → List Int → Int → Int → Int → Option Bool
  | 0, _, _, _, _, _, _, _, _, _, _, _ => none
  | k + 1, a0_0, a0_1, a0_2, a0_3, a0_4, a0_5, a0_6, l0_7, a1, t25_, x42_ => (if (x42_ : Int) < (IntKind.wrap .i64 t25_) then ((shape_words_marked.f a0_0 a0_1 a0_2 a0_3 a0_4 a0_5 a0_6 l0_7 a1 x42_).bind fun t90_ => (if t90_ = true then some (true, true, true) else (shape_Level.f k a0_0 a0_1 a0_2 a0_3 a0_4 a0_5 a0_6 l0_7 x42_).bind fun t93_ => (slices_Contains_uint64_uint64.f k t93_ a1).bind fun t97_ => some (false, false, !t97_)) : Option (Bool × Bool × Bool)).bind fun (j85_, j86_, j87_) => (if j87_ = true then some false else shape_words_settled.l0 k a0_0 a0_1 a0_2 a0_3 a0_4 a0_5 a0_6 l0_7 a1 t25_ (IntKind.wrap .i64 (x42_ + 1))) else some true)
def shape_words_settled.f (k : Nat) (a0_0 : Int) (a0_1 : Int) (a0_2 : Int) (a0_3 : Int) (a0_4 : Int) (a0_5 : Int) (a0_6 : Int) (l0_7 : List Int) (a1 : Int) : Option Bool := ((shape_words_at.f a0_0 a0_1 a0_2 a0_3 a0_4 a0_5 a0_6 l0_7 (a1 % 4294967296) 2).bind fun t100_ => (slot_Dead.f t100_).bind fun t102_ => (if t102_ = true then some true else (shape_words_at.f a0_0 a0_1 a0_2 a0_3 a0_4 a0_5 a0_6 l0_7 (a1 % 4294967296) 5).bind fun t105_ => some ((t105_ : Int) != 1)) : Option Bool).bind fun j20_ => (if j20_ = true then some false else (shape_words_at.f a0_0 a0_1 a0_2 a0_3 a0_4 a0_5 a0_6 l0_7 (a1 % 4294967296) 4).bind fun t25_ => shape_words_settled.l0 k a0_0 a0_1 a0_2 a0_3 a0_4 a0_5 a0_6 l0_7 a1 t25_ 0)
set_option maxRecDepth 100000 in
set_option maxHeartbeats 4000000 in
theorem shape_words_settled_con (k : Nat) (a0_0 : Int) (a0_1 : Int) (a0_2 : Int) (a0_3 : Int) (a0_4 : Int) (a0_5 : Int) (a0_6 : Int) (A0_7 : Option Addr) (c0_7 : Nat) (l0_7 : List Int) (a1 : Int) (r0 : Bool) (h : shape_words_settled.f k a0_0 a0_1 a0_2 a0_3 a0_4 a0_5 a0_6 l0_7 a1 = some r0) (w0 : World) (Hs : List Nat) : Con Try.prog 48 #[.agg #[.int .i64 a0_0, .int .i64 a0_1, .int .i64 a0_2, .int .i64 a0_3, .int .i64 a0_4, .int .i64 a0_5, .int .i64 a0_6, .slice A0_7 l0_7.length c0_7], .int .u64 a1] w0 Hs [.f (KC (Kd.int .u64) A0_7 c0_7 l0_7)] (fun X => X (.bool r0) []) := by
 refine con_enter (c := bodyOf Try.f48) Try.func48 rfl (m := 42) rfl rfl rfl ?_
 intro X hX _
 have H := h
 unfold shape_words_settled.f at H
 clear h
 refine c_seq rfl ?_
 refine r_ord (l := [0, 1]) rfl (by kernel_rfl) (by kernel_rfl) ?_
 refine s_e rfl rfl (e_box rfl rfl rfl rfl) ?_
 intro b2_
 refine s_v rfl rfl rfl rfl (v_assign rfl rfl) ?_
 refine s_end ?_
 refine q_seq ?_
 refine c_seq rfl ?_
 refine r_ord (l := [0, 1, 2]) rfl (by kernel_rfl) (by kernel_rfl) ?_
 refine s_v rfl rfl rfl rfl (v_move rfl rfl) ?_
 refine s_e rfl rfl (e_callF [] #[.int .u64 a1] rfl rfl rfl rfl rfl Try.func27 rfl (by decide) rfl rfl rfl rfl (fun w ht => handle_Index_con a1 w _)) ?_
 refine s_v rfl rfl rfl rfl (v_assign rfl rfl) ?_
 refine s_end ?_
 refine q_seq ?_
 refine c_seq rfl ?_
 obtain ⟨j20_, e21_, H⟩ := bind_s H
 refine c_join (β := Unit) (fun _ => True) (fun _ => [(1, .int .u64 a1), (2, .pointer (some ⟨b2_, 0, none⟩)), (4, .bool false), (5, .int .i64 (a1 % 4294967296)), (18, .bool j20_)]) (fun _ => [.b b2_ (.cells #[.int .i64 a0_0, .int .i64 a0_1, .int .i64 a0_2, .int .i64 a0_3, .int .i64 a0_4, .int .i64 a0_5, .int .i64 a0_6, .slice A0_7 l0_7.length c0_7] 63 (0, 0)), .f (KC (Kd.int .u64) A0_7 c0_7 l0_7)]) rfl (fun _ _ => ?_) (fun J_ => ?_)
 rcases Bool.eq_false_or_eq_true j20_ with h22_ | h22_
 subst h22_
 replace H := ite_y rfl H
 refine c_cond1 rfl rfl ?_
 refine c_seq rfl ?_
 refine r_ord (l := [0]) rfl (by kernel_rfl) (by kernel_rfl) ?_
 refine s_v rfl rfl rfl rfl (v_assign rfl rfl) ?_
 refine s_end ?_
 refine q_seq ?_
 refine c_ret rfl ?_
 refine q_then_ret ?_
 have e_ := Option.some.inj H
 subst e_
 exact q_ret (vs := [.bool false]) rfl (.tmp rfl .nil) [] rfl (by decide) (hX)
 subst h22_
 replace H := ite_n (by decide) H
 refine c_cond0 rfl rfl ?_
 refine c_skip rfl ?_
 refine q_seq ?_
 refine c_seq rfl ?_
 refine c_seq rfl ?_
 refine r_ord (l := [0, 1, 2, 3, 4]) rfl (by kernel_rfl) (by kernel_rfl) ?_
 refine s_v rfl rfl rfl rfl (v_ldA [.int .i64 a0_0, .int .i64 a0_1, .int .i64 a0_2, .int .i64 a0_3, .int .i64 a0_4, .int .i64 a0_5, .int .i64 a0_6, .slice A0_7 l0_7.length c0_7] 0 rfl Try.underlying63 rfl SZ63 rfl rfl rfl rfl) ?_
 refine s_v rfl rfl rfl rfl (v_move rfl rfl) ?_
 obtain ⟨t25_, e26_, H⟩ := bind_s H
 refine s_e rfl rfl (e_callF [1] #[.agg #[.int .i64 a0_0, .int .i64 a0_1, .int .i64 a0_2, .int .i64 a0_3, .int .i64 a0_4, .int .i64 a0_5, .int .i64 a0_6, .slice A0_7 l0_7.length c0_7], .int .i64 (a1 % 4294967296), .int .i64 4] rfl rfl rfl rfl rfl Try.func28 rfl (by decide) rfl rfl rfl rfl (fun w ht => shape_words_at_con a0_0 a0_1 a0_2 a0_3 a0_4 a0_5 a0_6 A0_7 c0_7 l0_7 (a1 % 4294967296) 4 t25_ e26_ w _)) ?_
 refine s_v rfl rfl rfl rfl (v_conv rfl Try.underlying25 Try.underlying3 rfl) ?_
 refine s_v rfl rfl rfl rfl (v_move rfl rfl) ?_
 refine s_end ?_
 refine q_seq ?_
 refine c_block rfl ?_
 refine c_loop (σ := Nat × Int) (fun s_ : Nat × Int => match s_ with | (k, x42_) => shape_words_settled.l0 k a0_0 a0_1 a0_2 a0_3 a0_4 a0_5 a0_6 l0_7 a1 t25_ x42_ = some r0) (fun s_ : Nat × Int => match s_ with | (k, x42_) => k) (fun s_ : Nat × Int => match s_ with | (k, x42_) => [(1, .int .u64 a1), (2, .pointer (some ⟨b2_, 0, none⟩)), (4, .bool false), (22, .int .i64 (IntKind.wrap .i64 t25_)), (23, .int .i64 x42_)]) (fun s_ : Nat × Int => match s_ with | (k, x42_) => [.b b2_ (.cells #[.int .i64 a0_0, .int .i64 a0_1, .int .i64 a0_2, .int .i64 a0_3, .int .i64 a0_4, .int .i64 a0_5, .int .i64 a0_6, .slice A0_7 l0_7.length c0_7] 63 (0, 0)), .f (KC (Kd.int .u64) A0_7 c0_7 l0_7)]) (k, 0) [0, 1] rfl H (subF_spec ⟨rfl, rfl, rfl, rfl, rfl, trivial⟩) rfl (by decide) ?_
 rintro ⟨k0_, x42_⟩ hs58_
 clear H
 have H : shape_words_settled.l0 k0_ a0_0 a0_1 a0_2 a0_3 a0_4 a0_5 a0_6 l0_7 a1 t25_ x42_ = some r0 := hs58_
 try clear hs58_
 rcases k0_ with _ | k0_
 exact none_no (show none = _ from H)
 unfold shape_words_settled.l0 at H
 have hko_0 : k0_ ≤ k0_ := Nat.le_refl _
 refine c_seq rfl ?_
 refine r_ord (l := [0]) rfl (by kernel_rfl) (by kernel_rfl) ?_
 refine s_v rfl rfl rfl rfl (v_arith rfl rfl rfl rfl) ?_
 refine s_end ?_
 refine q_seq ?_
 refine c_seq rfl ?_
 rcases Bool.eq_false_or_eq_true (decide ((x42_ : Int) < (IntKind.wrap .i64 t25_))) with h62_ | h62_
 replace H := ite_y (dec_t h62_) H
 refine c_cond rfl rfl (fun _ => ?_) (fun h63_ => absurd (h63_.symm.trans h62_) (by decide))
 refine c_skip rfl ?_
 refine q_seq ?_
 refine c_seq rfl ?_
 refine c_block rfl ?_
 refine c_seq rfl ?_
 refine r_ord (l := [0, 1]) rfl (by kernel_rfl) (by kernel_rfl) ?_
 refine s_v rfl rfl rfl rfl (v_move rfl rfl) ?_
 refine s_v rfl rfl rfl rfl (v_assign rfl rfl) ?_
 refine s_end ?_
 refine q_seq ?_
 obtain ⟨⟨j85_, j86_, j87_⟩, e88_, H⟩ := bind_s H
 refine c_join (β := Unit) (fun _ => True) (fun _ => [(1, .int .u64 a1), (2, .pointer (some ⟨b2_, 0, none⟩)), (4, .bool false), (22, .int .i64 (IntKind.wrap .i64 t25_)), (23, .int .i64 x42_), (24, .bool (decide ((x42_ : Int) < (IntKind.wrap .i64 t25_)))), (25, .int .i64 x42_), (6, .int .i64 x42_), (26, .agg #[.int .i64 a0_0, .int .i64 a0_1, .int .i64 a0_2, .int .i64 a0_3, .int .i64 a0_4, .int .i64 a0_5, .int .i64 a0_6, .slice A0_7 l0_7.length c0_7]), (27, .int .u64 a1), (28, .int .i64 x42_), (29, .bool j85_), (30, .bool j86_), (40, .bool j87_)]) (fun _ => [.b b2_ (.cells #[.int .i64 a0_0, .int .i64 a0_1, .int .i64 a0_2, .int .i64 a0_3, .int .i64 a0_4, .int .i64 a0_5, .int .i64 a0_6, .slice A0_7 l0_7.length c0_7] 63 (0, 0)), .f (KC (Kd.int .u64) A0_7 c0_7 l0_7)]) rfl (fun _ _ => ?_) (fun J_ => ?_)
 rcases Bool.eq_false_or_eq_true j87_ with h89_ | h89_
 subst h89_
 replace H := ite_y rfl H
 refine c_cond1 rfl rfl ?_
 refine c_seq rfl ?_
 refine r_ord (l := [0]) rfl (by kernel_rfl) (by kernel_rfl) ?_
 refine s_v rfl rfl rfl rfl (v_assign rfl rfl) ?_
 refine s_end ?_
 refine q_seq ?_
 refine c_ret rfl ?_
 refine q_block_ret ?_
 refine q_then_ret ?_
 refine q_then_ret ?_
 refine q_block_ret ?_
 refine q_then_ret ?_
 have e_ := Option.some.inj H
 subst e_
 exact q_ret (vs := [.bool false]) rfl (.tmp rfl .nil) [] rfl (by decide) (hX)
 subst h89_
 replace H := ite_n (by decide) H
 refine c_cond0 rfl rfl ?_
 refine c_skip rfl ?_
 refine q_block ?_
 refine q_seq ?_
 refine r_ord (l := [0, 1]) rfl (by kernel_rfl) (by kernel_rfl) ?_
 refine s_v rfl rfl rfl rfl (v_arith rfl rfl rfl rfl) ?_
 refine s_v rfl rfl rfl rfl (v_move rfl rfl) ?_
 refine s_end ?_
 exact q_again (k0_, IntKind.wrap .i64 (x42_ + 1)) [0, 1] H (Nat.lt_succ_of_le hko_0) (subF_spec ⟨rfl, rfl, rfl, rfl, rfl, trivial⟩) rfl (by decide)
 clear H
 have H := e88_
 clear e88_
 refine r_ord (l := [0, 1, 2, 3, 4, 5, 6, 7, 8, 9, 10, 11, 12, 13, 14]) rfl (by kernel_rfl) (by kernel_rfl) ?_
 refine s_v rfl rfl rfl rfl (v_ldA [.int .i64 a0_0, .int .i64 a0_1, .int .i64 a0_2, .int .i64 a0_3, .int .i64 a0_4, .int .i64 a0_5, .int .i64 a0_6, .slice A0_7 l0_7.length c0_7] 0 rfl Try.underlying63 rfl SZ63 rfl rfl rfl rfl) ?_
 refine s_v rfl rfl rfl rfl (v_move rfl rfl) ?_
 refine s_v rfl rfl rfl rfl (v_move rfl rfl) ?_
 obtain ⟨t90_, e91_, H⟩ := bind_s H
 refine s_e rfl rfl (e_callF [1] #[.agg #[.int .i64 a0_0, .int .i64 a0_1, .int .i64 a0_2, .int .i64 a0_3, .int .i64 a0_4, .int .i64 a0_5, .int .i64 a0_6, .slice A0_7 l0_7.length c0_7], .int .u64 a1, .int .i64 x42_] rfl rfl rfl rfl rfl Try.func74 rfl (by decide) rfl rfl rfl rfl (fun w ht => shape_words_marked_con a0_0 a0_1 a0_2 a0_3 a0_4 a0_5 a0_6 A0_7 c0_7 l0_7 a1 x42_ t90_ e91_ w _)) ?_
 refine s_v rfl rfl rfl rfl (v_move rfl rfl) ?_
 rcases Bool.eq_false_or_eq_true t90_ with h92_ | h92_
 subst h92_
 replace H := ite_y rfl H
 refine s_no rfl rfl rfl rfl ?_
 refine s_no rfl rfl rfl rfl ?_
 refine s_no rfl rfl rfl rfl ?_
 refine s_no rfl rfl rfl rfl ?_
 refine s_no rfl rfl rfl rfl ?_
 refine s_no rfl rfl rfl rfl ?_
 refine s_no rfl rfl rfl rfl ?_
 refine s_no rfl rfl rfl rfl ?_
 refine s_no rfl rfl rfl rfl ?_
 refine s_v rfl rfl rfl rfl (v_pick rfl rfl rfl rfl) ?_
 refine s_end ?_
 have hq_0 := Option.some.inj H
 obtain ⟨ee_0, hq_1⟩ := Prod.mk.inj hq_0
 obtain ⟨ee_1, hq_2⟩ := Prod.mk.inj hq_1
 subst ee_0
 subst ee_1
 subst hq_2
 exact q_seq (c_frame (subF_spec (by exact ⟨rfl, rfl, rfl, rfl, rfl, rfl, rfl, rfl, rfl, rfl, rfl, rfl, rfl, rfl, trivial⟩)) (c_take [0, 1] rfl (by decide) (J_ () trivial)))
 subst h92_
 replace H := ite_n (by decide) H
 refine s_vg rfl rfl rfl rfl (v_fa rfl Try.underlying63 rfl SZ23 rfl) ?_
 refine s_vg rfl rfl rfl rfl (v_ldA [.int .i64 a0_0, .int .i64 a0_1, .int .i64 a0_2, .int .i64 a0_3, .int .i64 a0_4, .int .i64 a0_5, .int .i64 a0_6] 0 rfl Try.underlying23 rfl SZ23 rfl rfl rfl rfl) ?_
 refine s_vg rfl rfl rfl rfl (v_fa rfl Try.underlying63 rfl SZ24 rfl) ?_
 refine s_vg rfl rfl rfl rfl (v_ld 0 rfl Try.underlying24 rfl rfl rfl rfl) ?_
 refine s_vg rfl rfl rfl rfl (v_move rfl rfl) ?_
 obtain ⟨t93_, e94_, H⟩ := bind_s H
 refine s_eg rfl rfl (e_callF [1] #[.agg #[.int .i64 a0_0, .int .i64 a0_1, .int .i64 a0_2, .int .i64 a0_3, .int .i64 a0_4, .int .i64 a0_5, .int .i64 a0_6], .slice A0_7 l0_7.length c0_7, .int .i64 x42_] rfl rfl rfl rfl rfl Try.func9 rfl (by decide) rfl rfl rfl rfl (fun w ht => shape_Level_con _ a0_0 a0_1 a0_2 a0_3 a0_4 a0_5 a0_6 A0_7 c0_7 l0_7 x42_ t93_ e94_ w _)) ?_
 intro A95_ c96_
 refine s_vg rfl rfl rfl rfl (v_move rfl rfl) ?_
 obtain ⟨t97_, e98_, H⟩ := bind_s H
 refine s_eg rfl rfl (e_callF [0] #[.slice A95_ t93_.length c96_, .int .u64 a1] rfl rfl rfl rfl rfl Try.func47 rfl (by decide) rfl rfl rfl rfl (fun w ht => slices_Contains_uint64_uint64_con _ A95_ c96_ t93_ a1 t97_ e98_ w _)) ?_
 refine s_vg rfl rfl rfl rfl (v_not rfl rfl) ?_
 refine s_v rfl rfl rfl rfl (v_pick rfl rfl rfl rfl) ?_
 refine s_end ?_
 have hq_0 := Option.some.inj H
 obtain ⟨ee_0, hq_1⟩ := Prod.mk.inj hq_0
 obtain ⟨ee_1, hq_2⟩ := Prod.mk.inj hq_1
 subst ee_0
 subst ee_1
 subst hq_2
 exact q_seq (c_frame (subF_spec (by exact ⟨rfl, rfl, rfl, rfl, rfl, rfl, rfl, rfl, rfl, rfl, rfl, rfl, rfl, rfl, trivial⟩)) (c_take [1, 2] rfl (by decide) (J_ () trivial)))
 replace H := ite_n (dec_f h62_) H
 refine c_cond rfl rfl (fun h99_ => absurd (h99_.symm.trans h62_) (by decide)) (fun _ => ?_)
 refine c_exit (i := 0) rfl rfl ?_
 refine q_then_exit ?_
 refine q_then_exit ?_
 refine q_block_here rfl ?_
 refine q_seq ?_
 refine c_seq rfl ?_
 refine r_ord (l := [0]) rfl (by kernel_rfl) (by kernel_rfl) ?_
 refine s_v rfl rfl rfl rfl (v_assign rfl rfl) ?_
 refine s_end ?_
 refine q_seq ?_
 refine c_ret rfl ?_
 have e_ := Option.some.inj H
 subst e_
 exact q_ret (vs := [.bool true]) rfl (.tmp rfl .nil) [] rfl (by decide) (hX)
 clear H
 have H := e21_
 clear e21_
 refine r_ord (l := [0, 1, 2, 3, 4, 5, 6, 7, 8, 9]) rfl (by kernel_rfl) (by kernel_rfl) ?_
 refine s_v rfl rfl rfl rfl (v_ldA [.int .i64 a0_0, .int .i64 a0_1, .int .i64 a0_2, .int .i64 a0_3, .int .i64 a0_4, .int .i64 a0_5, .int .i64 a0_6, .slice A0_7 l0_7.length c0_7] 0 rfl Try.underlying63 rfl SZ63 rfl rfl rfl rfl) ?_
 refine s_v rfl rfl rfl rfl (v_move rfl rfl) ?_
 obtain ⟨t100_, e101_, H⟩ := bind_s H
 refine s_e rfl rfl (e_callF [1] #[.agg #[.int .i64 a0_0, .int .i64 a0_1, .int .i64 a0_2, .int .i64 a0_3, .int .i64 a0_4, .int .i64 a0_5, .int .i64 a0_6, .slice A0_7 l0_7.length c0_7], .int .i64 (a1 % 4294967296), .int .i64 2] rfl rfl rfl rfl rfl Try.func28 rfl (by decide) rfl rfl rfl rfl (fun w ht => shape_words_at_con a0_0 a0_1 a0_2 a0_3 a0_4 a0_5 a0_6 A0_7 c0_7 l0_7 (a1 % 4294967296) 2 t100_ e101_ w _)) ?_
 obtain ⟨t102_, e103_, H⟩ := bind_s H
 refine s_e rfl rfl (e_callF [] #[.int .u64 t100_] rfl rfl rfl rfl rfl Try.func29 rfl (by decide) rfl rfl rfl rfl (fun w ht => slot_Dead_con t100_ t102_ e103_ w _)) ?_
 refine s_v rfl rfl rfl rfl (v_move rfl rfl) ?_
 rcases Bool.eq_false_or_eq_true t102_ with h104_ | h104_
 subst h104_
 replace H := ite_y rfl H
 refine s_no rfl rfl rfl rfl ?_
 refine s_no rfl rfl rfl rfl ?_
 refine s_no rfl rfl rfl rfl ?_
 refine s_no rfl rfl rfl rfl ?_
 refine s_v rfl rfl rfl rfl (v_pick rfl rfl rfl rfl) ?_
 refine s_end ?_
 have hq_0 := Option.some.inj H
 subst hq_0
 exact q_seq (c_frame (subF_spec (by exact ⟨rfl, rfl, rfl, rfl, rfl, trivial⟩)) (c_take [0, 1] rfl (by decide) (J_ () trivial)))
 subst h104_
 replace H := ite_n (by decide) H
 refine s_vg rfl rfl rfl rfl (v_ldA [.int .i64 a0_0, .int .i64 a0_1, .int .i64 a0_2, .int .i64 a0_3, .int .i64 a0_4, .int .i64 a0_5, .int .i64 a0_6, .slice A0_7 l0_7.length c0_7] 0 rfl Try.underlying63 rfl SZ63 rfl rfl rfl rfl) ?_
 refine s_vg rfl rfl rfl rfl (v_move rfl rfl) ?_
 obtain ⟨t105_, e106_, H⟩ := bind_s H
 refine s_eg rfl rfl (e_callF [1] #[.agg #[.int .i64 a0_0, .int .i64 a0_1, .int .i64 a0_2, .int .i64 a0_3, .int .i64 a0_4, .int .i64 a0_5, .int .i64 a0_6, .slice A0_7 l0_7.length c0_7], .int .i64 (a1 % 4294967296), .int .i64 5] rfl rfl rfl rfl rfl Try.func28 rfl (by decide) rfl rfl rfl rfl (fun w ht => shape_words_at_con a0_0 a0_1 a0_2 a0_3 a0_4 a0_5 a0_6 A0_7 c0_7 l0_7 (a1 % 4294967296) 5 t105_ e106_ w _)) ?_
 refine s_vg rfl rfl rfl rfl (v_arith rfl rfl rfl rfl) ?_
 refine s_v rfl rfl rfl rfl (v_pick rfl rfl rfl rfl) ?_
 refine s_end ?_
 have hq_0 := Option.some.inj H
 subst hq_0
 exact q_seq (c_frame (subF_spec (by exact ⟨rfl, rfl, rfl, rfl, rfl, trivial⟩)) (c_take [0, 1] rfl (by decide) (J_ () trivial)))
def shape_Map.l0 : Nat → Int → Int → Int → Int → Int → Int → Int → List Int → List Int → Int → List S61 → Option (List S61)
  | 0, _, _, _, _, _, _, _, _, _, _, _ => none
  | k + 1, a0_0, a0_1, a0_2, a0_3, a0_4, a0_5, a0_6, l1, t11_, x37_, xs35_ => (if (x37_ : Int) < (t11_.length : Int) then (if 0 ≤ (x37_ : Int) then (shape_words_at.f a0_0 a0_1 a0_2 a0_3 a0_4 a0_5 a0_6 l1 ((rd t11_ x37_) % 4294967296) 2).bind fun t85_ => (slot_Dead.f t85_).bind fun t89_ => (if t89_ = true then shape_Map.l0 k a0_0 a0_1 a0_2 a0_3 a0_4 a0_5 a0_6 l1 t11_ (IntKind.wrap .i64 (x37_ + 1)) xs35_ else (shape_words_at.f a0_0 a0_1 a0_2 a0_3 a0_4 a0_5 a0_6 l1 ((rd t11_ x37_) % 4294967296) 1).bind fun t93_ => (slot_Of.f t85_).bind fun t95_ => (if xs35_.length < 8796093022208 then shape_Map.l0 k a0_0 a0_1 a0_2 a0_3 a0_4 a0_5 a0_6 l1 t11_ (IntKind.wrap .i64 (x37_ + 1)) (xs35_ ++ [(⟨t93_, t95_⟩ : S61)]) else none)) else none) else (seq_Of.f k xs35_).bind fun t107_ => some t107_)
def shape_Map.f (k : Nat) (a0_0 : Int) (a0_1 : Int) (a0_2 : Int) (a0_3 : Int) (a0_4 : Int) (a0_5 : Int) (a0_6 : Int) (l1 : List Int) : Option (List S61) := (shape_Level.f k a0_0 a0_1 a0_2 a0_3 a0_4 a0_5 a0_6 l1 0).bind fun t11_ => shape_Map.l0 k a0_0 a0_1 a0_2 a0_3 a0_4 a0_5 a0_6 l1 t11_ 0 ([] : List S61)
set_option maxRecDepth 100000 in
set_option maxHeartbeats 4000000 in
theorem shape_Map_con (k : Nat) (a0_0 : Int) (a0_1 : Int) (a0_2 : Int) (a0_3 : Int) (a0_4 : Int) (a0_5 : Int) (a0_6 : Int) (A1 : Option Addr) (c1 : Nat) (l1 : List Int) (r0 : List S61) (h : shape_Map.f k a0_0 a0_1 a0_2 a0_3 a0_4 a0_5 a0_6 l1 = some r0) (w0 : World) (Hs : List Nat) : Con Try.prog 12 #[.agg #[.int .i64 a0_0, .int .i64 a0_1, .int .i64 a0_2, .int .i64 a0_3, .int .i64 a0_4, .int .i64 a0_5, .int .i64 a0_6], .slice A1 l1.length c1] w0 Hs [.f (KC (Kd.int .u64) A1 c1 l1)] (fun X => ∀ A_r0 c_r0, X (.agg #[.slice A_r0 r0.length c_r0]) [.f (KC k61 A_r0 c_r0 r0)]) := by
 refine con_enter (c := bodyOf Try.f12) Try.func12 rfl (m := 42) rfl rfl rfl ?_
 intro X hX _
 have H := h
 unfold shape_Map.f at H
 clear h
 refine c_seq rfl ?_
 refine r_ord (l := [0, 1]) rfl (by kernel_rfl) (by kernel_rfl) ?_
 refine s_e rfl rfl (e_box rfl rfl rfl rfl) ?_
 intro b3_
 refine s_e rfl rfl (e_alloc rfl rfl rfl ZR37) ?_
 intro b4_
 refine s_end ?_
 refine q_seq ?_
 refine c_seq rfl ?_
 refine r_ord (l := [0, 1, 2, 3, 4]) rfl (by kernel_rfl) (by kernel_rfl) ?_
 refine s_v rfl rfl rfl rfl (v_ldA [.int .i64 a0_0, .int .i64 a0_1, .int .i64 a0_2, .int .i64 a0_3, .int .i64 a0_4, .int .i64 a0_5, .int .i64 a0_6] 1 rfl Try.underlying23 rfl SZ23 rfl rfl rfl rfl) ?_
 refine s_v rfl rfl rfl rfl (v_move rfl rfl) ?_
 refine s_v rfl rfl rfl rfl (v_build (places := #[(0, 7), (7, 1)]) #[.int .i64 a0_0, .int .i64 a0_1, .int .i64 a0_2, .int .i64 a0_3, .int .i64 a0_4, .int .i64 a0_5, .int .i64 a0_6, .slice A1 l1.length c1] rfl ZR63 Try.underlying63 (by kernel_rfl) rfl (by kernel_rfl)) ?_
 refine s_e rfl rfl (e_alloc rfl rfl rfl ZR63) ?_
 intro b6_
 refine s_e rfl rfl (e_stA 0 rfl rfl SZ63 rfl rfl rfl rfl rfl rfl) ?_
 refine s_end ?_
 refine q_seq ?_
 refine c_seq rfl ?_
 refine r_ord (l := [0]) rfl (by kernel_rfl) (by kernel_rfl) ?_
 refine s_v rfl rfl rfl rfl (v_assign rfl rfl) ?_
 refine s_end ?_
 refine q_seq ?_
 refine c_seq rfl ?_
 refine c_seq rfl ?_
 refine r_ord (l := [0, 1, 2, 3, 4]) rfl (by kernel_rfl) (by kernel_rfl) ?_
 refine s_v rfl rfl rfl rfl (v_ldA [.int .i64 a0_0, .int .i64 a0_1, .int .i64 a0_2, .int .i64 a0_3, .int .i64 a0_4, .int .i64 a0_5, .int .i64 a0_6] 2 rfl Try.underlying23 rfl SZ23 rfl rfl rfl rfl) ?_
 refine s_v rfl rfl rfl rfl (v_move rfl rfl) ?_
 obtain ⟨t11_, e12_, H⟩ := bind_s H
 refine s_e rfl rfl (e_callF [3] #[.agg #[.int .i64 a0_0, .int .i64 a0_1, .int .i64 a0_2, .int .i64 a0_3, .int .i64 a0_4, .int .i64 a0_5, .int .i64 a0_6], .slice A1 l1.length c1, .int .i64 0] rfl rfl rfl rfl rfl Try.func9 rfl (by decide) rfl rfl rfl rfl (fun w ht => shape_Level_con _ a0_0 a0_1 a0_2 a0_3 a0_4 a0_5 a0_6 A1 c1 l1 0 t11_ e12_ w _)) ?_
 intro A13_ c14_
 refine s_v rfl rfl rfl rfl (v_len rfl rfl rfl Try.underlying24 rfl rfl) ?_
 refine s_v rfl rfl rfl rfl (v_move rfl rfl) ?_
 refine s_end ?_
 refine q_seq ?_
 refine c_block rfl ?_
 refine c_knowT (φ := fun _ => True) (fun _ => trivial) ?_
 refine c_loop (σ := Nat × Int × Ro × List S61) (fun s_ : Nat × Int × Ro × List S61 => match s_ with | (k, x37_, ro34_, xs35_) => shape_Map.l0 k a0_0 a0_1 a0_2 a0_3 a0_4 a0_5 a0_6 l1 t11_ x37_ xs35_ = some r0 ∧ ORow 2 enc61 ro34_ xs35_) (fun s_ : Nat × Int × Ro × List S61 => match s_ with | (k, x37_, ro34_, xs35_) => k) (fun s_ : Nat × Int × Ro × List S61 => match s_ with | (k, x37_, ro34_, xs35_) => [(4, .pointer (some ⟨b4_, 0, none⟩)), (5, .pointer (some ⟨b6_, 0, none⟩)), (6, .slice (OA ro34_) xs35_.length (OC ro34_)), (16, .slice A13_ t11_.length c14_), (17, .int .i64 (t11_.length : Int)), (18, .int .i64 x37_)]) (fun s_ : Nat × Int × Ro × List S61 => match s_ with | (k, x37_, ro34_, xs35_) => [.f (KC (Kd.int .u64) A13_ c14_ t11_), .b b6_ (.cells #[.int .i64 a0_0, .int .i64 a0_1, .int .i64 a0_2, .int .i64 a0_3, .int .i64 a0_4, .int .i64 a0_5, .int .i64 a0_6, .slice A1 l1.length c1] 63 (0, 0)), .b b4_ (.cells #[.slice none 0 0] 37 (0, 0)), .b b3_ (.cells #[.int .i64 a0_0, .int .i64 a0_1, .int .i64 a0_2, .int .i64 a0_3, .int .i64 a0_4, .int .i64 a0_5, .int .i64 a0_6] 23 (0, 0)), .f (KC (Kd.int .u64) A1 c1 l1), OE 61 ro34_]) (k, 0, none, ([] : List S61)) [1, 2, 3, 4, 5, 0] rfl ⟨H, ORow.nil⟩ (subF_spec ⟨rfl, rfl, rfl, rfl, rfl, rfl, trivial⟩) rfl (by decide) ?_
 rintro ⟨k0_, x37_, ro34_, xs35_⟩ hs58_
 clear H
 obtain ⟨H, hr36_⟩ : shape_Map.l0 k0_ a0_0 a0_1 a0_2 a0_3 a0_4 a0_5 a0_6 l1 t11_ x37_ xs35_ = some r0 ∧ ORow 2 enc61 ro34_ xs35_ := hs58_
 try clear hs58_
 rcases k0_ with _ | k0_
 exact none_no (show none = _ from H)
 unfold shape_Map.l0 at H
 have hko_0 : k0_ ≤ k0_ := Nat.le_refl _
 refine c_seq rfl ?_
 refine r_ord (l := [0]) rfl (by kernel_rfl) (by kernel_rfl) ?_
 refine s_v rfl rfl rfl rfl (v_arith rfl rfl rfl rfl) ?_
 refine s_end ?_
 refine q_seq ?_
 refine c_seq rfl ?_
 rcases Bool.eq_false_or_eq_true (decide ((x37_ : Int) < (t11_.length : Int))) with h62_ | h62_
 replace H := ite_y (dec_t h62_) H
 refine c_cond rfl rfl (fun _ => ?_) (fun h63_ => absurd (h63_.symm.trans h62_) (by decide))
 refine c_skip rfl ?_
 refine q_seq ?_
 refine c_seq rfl ?_
 refine c_block rfl ?_
 refine c_seq rfl ?_
 refine r_ord (l := [0, 1, 2]) rfl (by kernel_rfl) (by kernel_rfl) ?_
 obtain ⟨n82_, H⟩ := ite_no H
 refine s_v rfl rfl rfl rfl (v_iaK (i := 0) rfl Try.underlying24 SZ25 rfl rfl rfl rfl n82_ (dec_t h62_)) ?_
 refine s_v rfl rfl rfl rfl (v_ldK (v := .int .u64 (rd t11_ x37_)) 0 0 rfl Try.underlying25 rfl rfl rfl rfl n82_ (dec_t h62_) (fun w K h => h)) ?_
 refine s_v rfl rfl rfl rfl (v_assign rfl rfl) ?_
 refine s_end ?_
 refine q_seq ?_
 refine c_seq rfl ?_
 refine r_ord (l := [0, 1, 2]) rfl (by kernel_rfl) (by kernel_rfl) ?_
 refine s_v rfl rfl rfl rfl (v_move rfl rfl) ?_
 refine s_e rfl rfl (e_callF [] #[.int .u64 (rd t11_ x37_)] rfl rfl rfl rfl rfl Try.func27 rfl (by decide) rfl rfl rfl rfl (fun w ht => handle_Index_con (rd t11_ x37_) w _)) ?_
 refine s_v rfl rfl rfl rfl (v_assign rfl rfl) ?_
 refine s_end ?_
 refine q_seq ?_
 refine c_seq rfl ?_
 refine r_ord (l := [0, 1, 2, 3]) rfl (by kernel_rfl) (by kernel_rfl) ?_
 refine s_v rfl rfl rfl rfl (v_ldA [.int .i64 a0_0, .int .i64 a0_1, .int .i64 a0_2, .int .i64 a0_3, .int .i64 a0_4, .int .i64 a0_5, .int .i64 a0_6, .slice A1 l1.length c1] 1 rfl Try.underlying63 rfl SZ63 rfl rfl rfl rfl) ?_
 refine s_v rfl rfl rfl rfl (v_move rfl rfl) ?_
 obtain ⟨t85_, e86_, H⟩ := bind_s H
 refine s_e rfl rfl (e_callF [4] #[.agg #[.int .i64 a0_0, .int .i64 a0_1, .int .i64 a0_2, .int .i64 a0_3, .int .i64 a0_4, .int .i64 a0_5, .int .i64 a0_6, .slice A1 l1.length c1], .int .i64 ((rd t11_ x37_) % 4294967296), .int .i64 2] rfl rfl rfl rfl rfl Try.func28 rfl (by decide) rfl rfl rfl rfl (fun w ht => shape_words_at_con a0_0 a0_1 a0_2 a0_3 a0_4 a0_5 a0_6 A1 c1 l1 ((rd t11_ x37_) % 4294967296) 2 t85_ e86_ w _)) ?_
 refine s_v rfl rfl rfl rfl (v_assign rfl rfl) ?_
 refine s_end ?_
 refine q_seq ?_
 refine c_seq rfl ?_
 refine r_ord (l := [0, 1, 2]) rfl (by kernel_rfl) (by kernel_rfl) ?_
 refine s_v rfl rfl rfl rfl (v_move rfl rfl) ?_
 obtain ⟨t89_, e90_, H⟩ := bind_s H
 refine s_e rfl rfl (e_callF [] #[.int .u64 t85_] rfl rfl rfl rfl rfl Try.func29 rfl (by decide) rfl rfl rfl rfl (fun w ht => slot_Dead_con t85_ t89_ e90_ w _)) ?_
 refine s_v rfl rfl rfl rfl (v_not rfl rfl) ?_
 refine s_end ?_
 refine q_seq ?_
 rcases Bool.eq_false_or_eq_true (!t89_) with h91_ | h91_
 replace H := ite_n (not_t (bnot_t h91_)) H
 refine c_cond rfl rfl (fun _ => ?_) (fun h92_ => absurd (h92_.symm.trans h91_) (by decide))
 refine r_ord (l := [0, 1, 2, 3, 4, 5, 6, 7, 8, 9]) rfl (by kernel_rfl) (by kernel_rfl) ?_
 refine s_v rfl rfl rfl rfl (v_move rfl rfl) ?_
 refine s_v rfl rfl rfl rfl (v_ldA [.int .i64 a0_0, .int .i64 a0_1, .int .i64 a0_2, .int .i64 a0_3, .int .i64 a0_4, .int .i64 a0_5, .int .i64 a0_6, .slice A1 l1.length c1] 1 rfl Try.underlying63 rfl SZ63 rfl rfl rfl rfl) ?_
 refine s_v rfl rfl rfl rfl (v_move rfl rfl) ?_
 obtain ⟨t93_, e94_, H⟩ := bind_s H
 refine s_e rfl rfl (e_callF [4] #[.agg #[.int .i64 a0_0, .int .i64 a0_1, .int .i64 a0_2, .int .i64 a0_3, .int .i64 a0_4, .int .i64 a0_5, .int .i64 a0_6, .slice A1 l1.length c1], .int .i64 ((rd t11_ x37_) % 4294967296), .int .i64 1] rfl rfl rfl rfl rfl Try.func28 rfl (by decide) rfl rfl rfl rfl (fun w ht => shape_words_at_con a0_0 a0_1 a0_2 a0_3 a0_4 a0_5 a0_6 A1 c1 l1 ((rd t11_ x37_) % 4294967296) 1 t93_ e94_ w _)) ?_
 refine s_v rfl rfl rfl rfl (v_move rfl rfl) ?_
 obtain ⟨t95_, e96_, H⟩ := bind_s H
 refine s_e rfl rfl (e_callF [] #[.int .u64 t85_] rfl rfl rfl rfl rfl Try.func30 rfl (by decide) rfl rfl rfl rfl (fun w ht => slot_Of_con t85_ t95_ e96_ w _)) ?_
 refine s_v rfl rfl rfl rfl (v_build (places := #[(0, 1), (1, 1)]) #[.int .u64 t93_, .int .u64 t95_] rfl ZR61 Try.underlying61 (by kernel_rfl) rfl (by kernel_rfl)) ?_
 refine s_e rfl rfl (e_bslice #[.int .u64 t93_, .int .u64 t95_] (.agg #[.int .u64 0, .int .u64 0]) rfl rfl rfl Try.underlying35 SZ61 ZR61 (by decide) rfl (by kernel_rfl)) ?_
 intro b97_
 obtain ⟨n98_, H⟩ := ite_no H
 refine s_e rfl rfl (e_appO (enc := enc61) (v := (⟨t93_, t95_⟩ : S61)) (xs := xs35_) (ro := ro34_) (z := (.agg #[.int .u64 0, .int .u64 0])) (m := 2) (bytes := 16) (i := 0) (j := 6) rfl rfl rfl rfl rfl rfl Try.underlying35 (by kernel_rfl) rfl (by decide) rfl rfl hr36_ rfl rfl rfl rfl (flat61.one _) (by omega) (by simp only [maxLen]; omega)) ?_
 intro ro99_ hr100_ sm101_
 refine s_v rfl rfl rfl rfl (v_assign rfl rfl) ?_
 refine s_end ?_
 refine q_block ?_
 refine q_seq ?_
 refine r_ord (l := [0, 1]) rfl (by kernel_rfl) (by kernel_rfl) ?_
 refine s_v rfl rfl rfl rfl (v_arith rfl rfl rfl rfl) ?_
 refine s_v rfl rfl rfl rfl (v_move rfl rfl) ?_
 refine s_end ?_
 exact q_again (k0_, IntKind.wrap .i64 (x37_ + 1), ro99_, (xs35_ ++ [(⟨t93_, t95_⟩ : S61)])) [1, 2, 3, 4, 5, 6] ⟨H, hr100_⟩ (Nat.lt_succ_of_le hko_0) (subF_spec ⟨rfl, rfl, rfl, rfl, rfl, rfl, trivial⟩) rfl (by decide)
 replace H := ite_y (bnot_f h91_) H
 refine c_cond rfl rfl (fun h102_ => absurd (h102_.symm.trans h91_) (by decide)) (fun _ => ?_)
 refine c_skip rfl ?_
 refine q_block ?_
 refine q_seq ?_
 refine r_ord (l := [0, 1]) rfl (by kernel_rfl) (by kernel_rfl) ?_
 refine s_v rfl rfl rfl rfl (v_arith rfl rfl rfl rfl) ?_
 refine s_v rfl rfl rfl rfl (v_move rfl rfl) ?_
 refine s_end ?_
 exact q_again (k0_, IntKind.wrap .i64 (x37_ + 1), ro34_, xs35_) [0, 1, 2, 3, 4, 5] ⟨H, hr36_⟩ (Nat.lt_succ_of_le hko_0) (subF_spec ⟨rfl, rfl, rfl, rfl, rfl, rfl, trivial⟩) rfl (by decide)
 replace H := ite_n (dec_f h62_) H
 refine c_cond rfl rfl (fun h103_ => absurd (h103_.symm.trans h62_) (by decide)) (fun _ => ?_)
 refine c_exit (i := 0) rfl rfl ?_
 refine q_then_exit ?_
 refine q_then_exit ?_
 refine q_block_here rfl ?_
 refine q_seq ?_
 refine c_seq rfl ?_
 refine r_ord (l := [0, 1, 2]) rfl (by kernel_rfl) (by kernel_rfl) ?_
 refine s_v rfl rfl rfl rfl (v_move rfl rfl) ?_
 refine s_giveO flat61 hr36_ [5, 0, 1, 2, 3, 4] rfl (by decide) rfl ?_
 obtain ⟨t107_, e108_, H⟩ := bind_s H
 refine s_e rfl rfl (e_callK (fun z : (Option Addr × Nat) => .agg #[.slice z.1 t107_.length z.2]) (fun z => [KC k61 z.1 z.2 t107_]) #[.slice (OA ro34_) xs35_.length (OC ro34_)] rfl rfl rfl rfl rfl Try.func31 rfl (by decide) rfl rfl (fun w ht => seq_Of.con _ (OA ro34_) (OC ro34_) xs35_ t107_ e108_ w (Tri.fact ht 0 rfl))) ?_
 intro z109_
 refine s_e rfl rfl (e_stA 4 rfl rfl SZ37 rfl rfl rfl rfl rfl rfl) ?_
 refine s_end ?_
 refine q_seq ?_
 refine c_ret rfl ?_
 have e_ := Option.some.inj H
 subst e_
 exact q_ret (vs := [.agg #[.slice z109_.1 t107_.length z109_.2]]) rfl (.agg [.slice z109_.1 t107_.length z109_.2] 4 rfl Try.underlying37 rfl SZ37 rfl rfl rfl .nil) [0] rfl (by decide) (hX z109_.1 z109_.2)
end Go.Eng
namespace Go.Eng
open Go.Proofs Go.RowKit Go.Proofs.YtbonlagecjealaaW.PrintWords Go.Proofs.Ytbonlagecjealaa.GSeq
set_option linter.unusedVariables false
set_option linter.unusedSimpArgs false
set_option maxRecDepth 100000 in
set_option maxHeartbeats 4000000 in
theorem slices_Clone_uint64_uint64_own (A0 : Option Addr) (c0 : Nat) (l0 : List Int) (hl : l0.length < 17592186044416) (w0 : World) (Hs : List Nat) : Con Try.prog 44 #[.slice A0 l0.length c0] w0 Hs [.f (KC (Kd.int .u64) A0 c0 l0)] (fun X => ∀ ro, ORow 1 (fun x => [.int .u64 x]) ro l0 → X (.slice (OA ro) l0.length (OC ro)) [OE 25 ro]) := by
  rcases A0 with _ | ad
  ·
    refine con_enter (c := bodyOf Try.f44) Try.func44 rfl (m := 8) rfl rfl rfl ?_
    intro X hX ht_
    have hn : l0 = [] := KC_nonil (ht_.fact 0 rfl)
    refine c_seq rfl ?_
    refine r_ord (l := [0]) rfl (by kernel_rfl) (by kernel_rfl) ?_
    refine s_v rfl rfl rfl rfl (v_assign rfl rfl) ?_
    refine s_end ?_
    refine q_seq ?_
    refine c_seq rfl ?_
    refine c_seq rfl ?_
    refine r_ord (l := [0, 1]) rfl (by kernel_rfl) (by kernel_rfl) ?_
    refine s_v rfl rfl rfl rfl (v_move rfl rfl) ?_
    refine s_v rfl rfl rfl rfl (v_eqSN rfl Try.underlying24 rfl rfl) ?_
    refine s_end ?_
    refine q_seq ?_
    refine c_cond1 rfl rfl ?_
    refine c_seq rfl ?_
    refine r_ord (l := [0]) rfl (by kernel_rfl) (by kernel_rfl) ?_
    refine s_v rfl rfl rfl rfl (v_assign rfl rfl) ?_
    refine s_end ?_
    refine q_seq ?_
    refine c_ret rfl ?_
    refine q_then_ret ?_
    refine q_know (φ := fun _ => True) (fun _ => trivial) ?_
    have hX1 := hX none hn
    rw [hn] at hX1
    exact q_ret (vs := [.slice none 0 0]) rfl (.tmp rfl .nil) [0] rfl (by decide) hX1
  ·
    refine con_enter (c := bodyOf Try.f44) Try.func44 rfl (m := 8) rfl rfl rfl ?_
    intro X hX ht_
    refine c_seq rfl ?_
    refine r_ord (l := [0]) rfl (by kernel_rfl) (by kernel_rfl) ?_
    refine s_v rfl rfl rfl rfl (v_assign rfl rfl) ?_
    refine s_end ?_
    refine q_seq ?_
    refine c_seq rfl ?_
    refine c_seq rfl ?_
    refine r_ord (l := [0, 1]) rfl (by kernel_rfl) (by kernel_rfl) ?_
    refine s_v rfl rfl rfl rfl (v_move rfl rfl) ?_
    refine s_v rfl rfl rfl rfl (v_eqSN rfl Try.underlying24 rfl rfl) ?_
    refine s_end ?_
    refine q_seq ?_
    refine c_cond0 rfl rfl ?_
    refine c_skip rfl ?_
    refine q_seq ?_
    refine c_seq rfl ?_
    refine r_ord (l := [0, 1, 2, 3]) rfl (by kernel_rfl) (by kernel_rfl) ?_
    refine s_e rfl rfl (e_bslice0 rfl rfl rfl Try.underlying24 SZ25) ?_
    intro b5_
    refine s_v rfl rfl rfl rfl (v_move rfl rfl) ?_
    refine s_e rfl rfl (e_appOK (flat_int .u64) (xs := ([] : List Int)) (ro := (some (b5_, 0, #[]))) (l := l0) (z := (.int .u64 0)) (m := 1) (bytes := 8) (i := 1) (j := 0) rfl rfl rfl rfl rfl rfl Try.underlying24 (by kernel_rfl) rfl rfl rfl rfl orow_empty rfl rfl rfl (by first | omega | (simp only [List.length_nil, Nat.zero_add]; omega)) (by simp only [maxLen]; first | omega | (simp only [List.length_nil, Nat.zero_add]; omega))) ?_
    intro ro6_ hr7_ sm8_
    refine s_v rfl rfl rfl rfl (v_assign rfl rfl) ?_
    refine s_end ?_
    refine q_seq ?_
    refine c_ret rfl ?_
    exact q_ret (vs := [.slice (OA ro6_) ((([] : List Int) ++ l0).length) (OC ro6_)]) rfl (.tmp rfl .nil) [0] rfl (by decide) (hX ro6_ hr7_)
def shape_Rest.b3 (k : Nat) (a0_0 : Int) (a0_1 : Int) (a0_2 : Int) (a0_3 : Int) (a0_4 : Int) (a0_5 : Int) (a0_6 : Int) (l1 : List Int) (t24_ : List Int) (κ_ : Unit → Option Bool) (x234_ x235_ : Int) (st_ : Unit) : Option Bool := match st_ with | _ => ((slices_Contains_uint64_uint64.f k t24_ x235_).bind fun t256_ => (if t256_ = true then (shape_words_settled.f k a0_0 a0_1 a0_2 a0_3 a0_4 a0_5 a0_6 l1 x235_).bind fun t261_ => some (!t261_) else some true) : Option Bool).bind fun j253_ => (if j253_ = true then some false else κ_ ())
mutual
def shape_Rest.l5 : Nat → Int → Int → Int → Int → Int → Int → Int → List Int → List Int → Int → Option Bool
  | 0, _, _, _, _, _, _, _, _, _, _ => none
  | k + 1, a0_0, a0_1, a0_2, a0_3, a0_4, a0_5, a0_6, l1, xs314_, x416_ => (if (x416_ : Int) ≤ a0_2 then (shape_words_at.f a0_0 a0_1 a0_2 a0_3 a0_4 a0_5 a0_6 l1 x416_ 0).bind fun t454_ => (slot_State.f t454_).bind fun t456_ => ((if 0 ≤ (x416_ : Int) then (if (x416_ : Int) < ((Int.toNat (IntKind.wrap .i64 (a0_2 + 1))) : Int) then (if (rd xs314_ x416_ : Int) > 1 then some (true, true) else some (false, !(((t456_ : Int) == 1) == ((rd xs314_ x416_ : Int) == 1)))) else none) else none) : Option (Bool × Bool)).bind fun (j463_, j464_) => (if j464_ = true then some false else shape_Rest.l5 k a0_0 a0_1 a0_2 a0_3 a0_4 a0_5 a0_6 l1 xs314_ (IntKind.wrap .i64 (x416_ + 1))) else some true)
def shape_Rest.l4 : Nat → Int → Int → Int → Int → Int → Int → Int → List Int → List Int → Int → List Int → Option Bool
  | 0, _, _, _, _, _, _, _, _, _, _, _ => none
  | k + 1, a0_0, a0_1, a0_2, a0_3, a0_4, a0_5, a0_6, l1, xs52_, x313_, xs314_ => (if (x313_ : Int) < (xs52_.length : Int) then (if 0 ≤ (x313_ : Int) then ((shape_words_names.f a0_0 a0_1 a0_2 a0_3 a0_4 a0_5 a0_6 l1 (rd xs52_ x313_)).bind fun t391_ => (if t391_ = true then (handle_Marked.f (rd xs52_ x313_)).bind fun t396_ => (if t396_ = true then some (t391_, !t391_, false, true, true, true) else (shape_words_taken.f a0_0 a0_1 a0_2 a0_3 a0_4 a0_5 a0_6 l1 (rd xs52_ x313_)).bind fun t399_ => some (t391_, !t391_, false, false, false, !t399_)) else some (t391_, !t391_, true, true, true, true)) : Option (Bool × Bool × Bool × Bool × Bool × Bool)).bind fun (j381_, j382_, j383_, j384_, j385_, j386_) => (if j386_ = true then some false else (if 0 ≤ (((rd xs52_ x313_) % 4294967296) : Int) then (if (((rd xs52_ x313_) % 4294967296) : Int) < ((Int.toNat (IntKind.wrap .i64 (a0_2 + 1))) : Int) then shape_Rest.l4 k a0_0 a0_1 a0_2 a0_3 a0_4 a0_5 a0_6 l1 xs52_ (IntKind.wrap .i64 (x313_ + 1)) (xs314_.set (Int.toNat ((rd xs52_ x313_) % 4294967296)) (IntKind.wrap .i64 ((rd xs314_ ((rd xs52_ x313_) % 4294967296)) + 1))) else none) else none)) else none) else shape_Rest.l5 k a0_0 a0_1 a0_2 a0_3 a0_4 a0_5 a0_6 l1 xs314_ 1)
def shape_Rest.l2 : Nat → Int → Int → Int → Int → Int → Int → Int → List Int → List Int → List Int → Int → Option Bool
  | 0, _, _, _, _, _, _, _, _, _, _, _ => none
  | k + 1, a0_0, a0_1, a0_2, a0_3, a0_4, a0_5, a0_6, l1, t24_, xs52_, x187_ => (if (x187_ : Int) < a0_3 then (if okB a0_0 a0_1 a0_2 a0_3 a0_4 a0_5 a0_6 l1 x187_ = true then (if 2000 ≤ k then (rng (shape_Rest.b3 k a0_0 a0_1 a0_2 a0_3 a0_4 a0_5 a0_6 l1 t24_) (lvlF a0_0 a0_1 a0_2 a0_3 a0_4 a0_5 a0_6 l1 x187_) (fun (s_ : Unit) => shape_Rest.l2 k a0_0 a0_1 a0_2 a0_3 a0_4 a0_5 a0_6 l1 t24_ xs52_ (IntKind.wrap .i64 (x187_ + 1))) ()) else none) else none) else (if 0 ≤ (IntKind.wrap .i64 (a0_2 + 1) : Int) then (if (IntKind.wrap .i64 (a0_2 + 1) : Int) < 17592186044416 then shape_Rest.l4 k a0_0 a0_1 a0_2 a0_3 a0_4 a0_5 a0_6 l1 xs52_ 0 (List.replicate (Int.toNat (IntKind.wrap .i64 (a0_2 + 1))) (0 : Int)) else none) else none))
def shape_Rest.l1 : Nat → Int → Int → Int → Int → Int → Int → Int → List Int → List Int → List Int → Int → Option Bool
  | 0, _, _, _, _, _, _, _, _, _, _, _ => none
  | k + 1, a0_0, a0_1, a0_2, a0_3, a0_4, a0_5, a0_6, l1, t24_, xs52_, x101_ => (if (x101_ : Int) < (l1.length : Int) then (plan_Where.f a0_0 a0_1 a0_2 a0_3 a0_4 a0_5 a0_6 x101_).bind fun (t141_, t142_, t143_) => (if (t141_ : Int) = 2 then (if 0 ≤ (x101_ : Int) then (if (rd l1 x101_ : Int) = 0 then shape_Rest.l1 k a0_0 a0_1 a0_2 a0_3 a0_4 a0_5 a0_6 l1 t24_ xs52_ (IntKind.wrap .i64 (x101_ + 1)) else some false) else none) else shape_Rest.l1 k a0_0 a0_1 a0_2 a0_3 a0_4 a0_5 a0_6 l1 t24_ xs52_ (IntKind.wrap .i64 (x101_ + 1))) else shape_Rest.l2 k a0_0 a0_1 a0_2 a0_3 a0_4 a0_5 a0_6 l1 t24_ xs52_ 0)
def shape_Rest.l0 : Nat → Int → Int → Int → Int → Int → Int → Int → List Int → List Int → List S81 → Int → List Int → Option Bool
  | 0, _, _, _, _, _, _, _, _, _, _, _, _ => none
  | k + 1, a0_0, a0_1, a0_2, a0_3, a0_4, a0_5, a0_6, l1, t24_, t39_, x54_, xs52_ => (if (x54_ : Int) < (t39_.length : Int) then (if 0 ≤ (x54_ : Int) then (if xs52_.length < 17592186044416 then shape_Rest.l0 k a0_0 a0_1 a0_2 a0_3 a0_4 a0_5 a0_6 l1 t24_ t39_ (IntKind.wrap .i64 (x54_ + 1)) (xs52_ ++ [(rd_T81 t39_ x54_).f0]) else none) else none) else shape_Rest.l1 k a0_0 a0_1 a0_2 a0_3 a0_4 a0_5 a0_6 l1 t24_ xs52_ 0)
end
def shape_Rest.f (k : Nat) (a0_0 : Int) (a0_1 : Int) (a0_2 : Int) (a0_3 : Int) (a0_4 : Int) (a0_5 : Int) (a0_6 : Int) (l1 : List Int) (l2 : List (List S81)) : Option Bool := (shape_Right.f k a0_0 a0_1 a0_2 a0_3 a0_4 a0_5 a0_6 l1).bind fun t14_ => (if t14_ = true then (shape_Level.f k a0_0 a0_1 a0_2 a0_3 a0_4 a0_5 a0_6 l1 0).bind fun t24_ => (if t24_.length < 17592186044416 then (slices_Concat_cover_Entry_cover_Entry.f k l2).bind fun t39_ => shape_Rest.l0 k a0_0 a0_1 a0_2 a0_3 a0_4 a0_5 a0_6 l1 t24_ t39_ 0 t24_ else none) else some false)
theorem Level_some_len {k : Nat} {T S C H K V L lev : Int} {l t : List Int} (h : shape_Level.f k T S C H K V L l lev = some t) : t.length ≤ 65 := by
  by_cases hok : okB T S C H K V L l lev = true ∧ 1000 ≤ k
  · have h2 := Level_is hok.2 T S C H K V L l (okB_iff.1 hok.1).2.2.2.2 lev
    rw [h, if_pos hok.1] at h2
    injection h2 with h2
    have := lvl_len hok.1
    rw [h2, List.length_map]
    exact this
  · unfold shape_Level.f at h
    rw [whole_is] at h
    simp only [Option.bind_some] at h
    obtain ⟨j, _, h⟩ := bind_s h
    cases j with
    | true => injection h with h; rw [← h]; simp
    | false =>
      replace h := ite_n (by decide) h
      obtain ⟨h1, h⟩ := ite_no h
      obtain ⟨h2, h⟩ := ite_no h
      exact absurd ⟨h1, h2⟩ hok
section
variable {T S C H K V L : Int} {l : List Int}
theorem rng_nodes {k : Nat} {lev : Int} {κ : Int × Int → Option Bool} : ∀ (ys : List (Int × Int)) (s : Int × Int), rng (shape_words_right.b0 k T S C H K V L l lev) ys κ s = some true → ∀ p ∈ ys, shape_words_node.f k T S C H K V L l p.2 lev = some true
  | [], _, _, p, hp => by cases hp
  | y :: ys, s, h, p, hp => by
    have h' : shape_words_right.b0 k T S C H K V L l lev (fun s' => rng (shape_words_right.b0 k T S C H K V L l lev) ys κ s') y.1 y.2 s = some true := h
    obtain ⟨s1, s2⟩ := s
    rw [shape_words_right.b0] at h'
    obtain ⟨j, _, h'⟩ := bind_s h'
    obtain ⟨j2, e2, h'⟩ := bind_s h'
    cases j2 with
    | true => replace h' := ite_y rfl h'; cases h'
    | false =>
      replace h' := ite_n (by decide) h'
      obtain ⟨t1, _, h'⟩ := bind_s h'
      obtain ⟨t2, _, h'⟩ := bind_s h'
      rcases List.mem_cons.1 hp with rfl | hp
      · split at e2
        · cases e2
        · split at e2
          · obtain ⟨q, eq_, e3⟩ := bind_s e2
            injection e3 with e3
            have : q = true := by simpa using e3
            rw [eq_, this]
          · cases e2
      · exact rng_nodes ys _ h' p hp
theorem right_nodes {k : Nat} {lev : Int} (h : shape_words_right.f k T S C H K V L l lev = some true) : okB T S C H K V L l lev = true ∧ ∀ p ∈ lvlF T S C H K V L l lev, shape_words_node.f k T S C H K V L l p.2 lev = some true := by
  unfold shape_words_right.f at h
  obtain ⟨t1, _, h⟩ := bind_s h
  obtain ⟨t2, _, h⟩ := bind_s h
  cases t2 with
  | true => replace h := ite_y rfl h; cases h
  | false =>
    replace h := ite_n (by decide) h
    obtain ⟨hok, h⟩ := ite_no h
    obtain ⟨_, h⟩ := ite_no h
    exact ⟨hok, rng_nodes _ _ h⟩
theorem Right_l0 (hH : H ≤ 6) : ∀ (k : Nat) (x : Int), 0 ≤ x → shape_Right.l0 k T S C H K V L l x = some true → ∀ lev, x ≤ lev → lev < H → ∃ k', shape_words_right.f k' T S C H K V L l lev = some true
  | 0, x, _, h, _, _, _ => by cases h
  | k + 1, x, h0, h, lev, h1, h2 => by
    rw [shape_Right.l0] at h
    replace h := ite_y (show x < H by omega) h
    obtain ⟨t, e, h⟩ := bind_s h
    cases t with
    | false => replace h := ite_n (by decide) h; cases h
    | true =>
      replace h := ite_y rfl h
      rw [wi64 (n := x + 1) (by omega) (by omega)] at h
      by_cases hx : x = lev
      · rw [← hx]; exact ⟨k, e⟩
      · exact Right_l0 hH k (x + 1) (by omega) h lev (by omega) h2
theorem Right_levels {k : Nat} (h : shape_Right.f k T S C H K V L l = some true) {lev : Int} (h1 : 0 ≤ lev) (h2 : lev < H) : ∃ k', shape_words_right.f k' T S C H K V L l lev = some true := by
  unfold shape_Right.f at h
  rw [whole_is] at h
  simp only [Option.bind_some] at h
  obtain ⟨j, ej, h⟩ := bind_s h
  cases j with
  | true => replace h := ite_y rfl h; cases h
  | false =>
    replace h := ite_n (by decide) h
    have hw : (r7 T S C H K V L && decide ((l.length : Int) = lenI T S C H)) = true := by
      by_cases hw : (r7 T S C H K V L && decide ((l.length : Int) = lenI T S C H)) = true
      · exact hw
      · rw [if_neg hw] at ej; cases ej
    rw [Bool.and_eq_true, r7_iff] at hw
    exact Right_l0 (by have := hw.1.h; omega) k 0 (Int.le_refl _) h lev h1 h2
theorem node_tall {k : Nat} {lev h : Int} (hok : okB T S C H K V L l lev = true) (h1 : 0 ≤ h % 4294967296) (h2 : h % 4294967296 ≤ C) (hn : shape_words_node.f k T S C H K V L l h lev = some true) : 0 ≤ rd l (cellI T S H (h % 4294967296) 4) ∧ rd l (cellI T S H (h % 4294967296) 4) ≤ H := by
  obtain ⟨hr, hl, h3, h4, hp⟩ := okB_iff.1 hok
  have hH := hr.h
  have hf : isF C H (h % 4294967296) 4 = true := isF_iff.2 ⟨h1, h2, by omega, by omega⟩
  obtain ⟨tk, etk⟩ := taken_tot hr hl h1 h2
  unfold shape_words_node.f at hn
  rw [at_some hr hl hf, etk, wu64 (n := lev) (by omega) (by omega), wu64 (n := H) (by omega) (by omega)] at hn
  simp only [Option.bind_some] at hn
  obtain ⟨j, ej, hn⟩ := bind_s hn
  cases j with
  | true => replace hn := ite_y rfl hn; cases hn
  | false =>
    cases tk with
    | false => cases ej
    | true =>
      replace ej := ite_y rfl ej
      split at ej
      · cases ej
      · injection ej with ej
        have := of_decide_eq_false ej
        omega
theorem settled_l0 (hr : R7 T S C H K V L) (hl : (l.length : Int) = lenI T S C H) (hp : ∀ x ∈ l, 0 ≤ x) {h : Int} (h1 : 0 ≤ h % 4294967296) (h2 : h % 4294967296 ≤ C) (t : Int) (h0 : 0 ≤ t) (ht : t ≤ H) : ∀ (m k : Nat) (x : Int), 0 ≤ x → t - x ≤ m → m + 1001 ≤ k → ∃ r, shape_words_settled.l0 k T S C H K V L l h t x = some r := by
  have hH := hr.h
  have hw : IntKind.wrap .i64 t = t := wi64 (by omega) (by omega)
  intro m
  induction m with
  | zero =>
    intro k x hx hm hk
    cases k with
    | zero => omega
    | succ k => exact ⟨true, by rw [shape_words_settled.l0, hw, if_neg (by omega)]⟩
  | succ m ih =>
    intro k x hx hm hk
    cases k with
    | zero => omega
    | succ k =>
      rw [shape_words_settled.l0, hw]
      by_cases hlt : x < t
      · rw [if_pos hlt]
        obtain ⟨r, e⟩ := marked_tot hr hl h1 h2 hx (show x < H by omega)
        have e2 : IntKind.wrap .i64 (x + 1) = x + 1 := wi64 (by omega) (by omega)
        have hL := Level_is (show 1000 ≤ k by omega) T S C H K V L l hp x
        have hlen := Level_some_len hL
        obtain ⟨c, ec⟩ := contains_tot (show 1000 ≤ k by omega) (show _ ≤ 100 from Nat.le_trans hlen (by decide)) h
        rw [e, e2, hL]
        simp only [Option.bind_some]
        rw [ec]
        simp only [Option.bind_some]
        obtain ⟨r2, er2⟩ := ih k (x + 1) (by omega) (by omega) (by omega)
        cases r with
        | true => exact ⟨false, rfl⟩
        | false =>
          cases c with
          | false => exact ⟨false, rfl⟩
          | true => exact ⟨r2, er2⟩
      · rw [if_neg hlt]
        exact ⟨true, rfl⟩
theorem settled_tot {k : Nat} (hk : 2000 ≤ k) {lev h : Int} (hok : okB T S C H K V L l lev = true) (h1 : 0 ≤ h % 4294967296) (h2 : h % 4294967296 ≤ C) (ht : 0 ≤ rd l (cellI T S H (h % 4294967296) 4) ∧ rd l (cellI T S H (h % 4294967296) 4) ≤ H) : ∃ r, shape_words_settled.f k T S C H K V L l h = some r := by
  obtain ⟨hr, hl, h3, h4, hp⟩ := okB_iff.1 hok
  have hH := hr.h
  have f := fun (i : Int) (h0 : 0 ≤ i) (hi : i < 6) => at_some hr hl (isF_iff.2 ⟨h1, h2, h0, by omega⟩ : isF C H (h % 4294967296) i = true)
  unfold shape_words_settled.f slot_Dead.f
  rw [f 2 (by decide) (by decide), f 5 (by decide) (by decide), f 4 (by decide) (by decide)]
  simp only [Option.bind_some]
  obtain ⟨r, er⟩ := settled_l0 hr hl hp h1 h2 _ ht.1 ht.2 10 k 0 (Int.le_refl _) (by omega) (by omega)
  rw [er]
  generalize (((IntKind.wrap .u64 (BitVec.ofInt (IntKind.bits .u64) (rd l (cellI T S H (h % 4294967296) 2)) &&& BitVec.ofInt (IntKind.bits .u64) 1).toNat : Int)) == 1) = q
  cases q with
  | true => exact ⟨false, rfl⟩
  | false =>
    generalize (rd l (cellI T S H (h % 4294967296) 5) != 1) = q2
    cases q2 with
    | true => exact ⟨false, rfl⟩
    | false => exact ⟨r, rfl⟩
theorem shape_Rest_tot3 (k : Nat) (T S C H K V L : Int) (l t : List Int) {lev : Int} (hfu : 2000 ≤ k) (hok : okB T S C H K V L l lev = true) {k0 : Nat} {tR : Bool} (hR : shape_Right.f k0 T S C H K V L l = some tR) (hT : (!tR) = false) {k1 : Nat} {lv1 : Int} (hlow : shape_Level.f k1 T S C H K V L l lv1 = some t) (r : Bool) : ∀ x ∈ lvlF T S C H K V L l lev, ∀ s : Unit, True → ∃ r', shape_Rest.b3 k T S C H K V L l t (fun _ => some r) x.1 x.2 s = some r' := by
  intro x hx s _
  obtain ⟨h1, h2, h3, h4⟩ := lvl_mem hx
  obtain ⟨_, _, h5, h6, _⟩ := okB_iff.1 hok
  rw [show tR = true from by simpa using hT] at hR
  obtain ⟨k', hk'⟩ := Right_levels hR h5 h6
  have ht := node_tall hok (show 0 ≤ x.2 % 4294967296 by omega) h4 ((right_nodes hk').2 x hx)
  obtain ⟨q, eq_⟩ := settled_tot hfu hok (show 0 ≤ x.2 % 4294967296 by omega) h4 ht
  obtain ⟨c, ec⟩ := contains_tot (show 1000 ≤ k by omega) (show t.length ≤ 100 from Nat.le_trans (Level_some_len hlow) (by decide)) x.2
  rw [shape_Rest.b3, ec, eq_]
  simp only [Option.bind_some]
  cases c with
  | false => exact ⟨false, rfl⟩
  | true =>
    cases q with
    | false => exact ⟨false, rfl⟩
    | true => exact ⟨r, rfl⟩
end
set_option maxRecDepth 100000 in
set_option maxHeartbeats 4000000 in
theorem shape_Rest_con (k : Nat) (a0_0 : Int) (a0_1 : Int) (a0_2 : Int) (a0_3 : Int) (a0_4 : Int) (a0_5 : Int) (a0_6 : Int) (A1 : Option Addr) (c1 : Nat) (l1 : List Int) (A2 : Option Addr) (c2 : Nat) (l2 : List (List S81)) (r0 : Bool) (h : shape_Rest.f k a0_0 a0_1 a0_2 a0_3 a0_4 a0_5 a0_6 l1 l2 = some r0) (w0 : World) (Hs : List Nat) : Con Try.prog 18 #[.agg #[.int .i64 a0_0, .int .i64 a0_1, .int .i64 a0_2, .int .i64 a0_3, .int .i64 a0_4, .int .i64 a0_5, .int .i64 a0_6], .slice A1 l1.length c1, .slice A2 l2.length c2] w0 Hs [.f (KC (Kd.int .u64) A1 c1 l1), .f (KC (Kd.slice 81 k81) A2 c2 l2)] (fun X => X (.bool r0) []) := by
 refine con_enterM (c := bodyOf Try.f18) (k := 9) Try.func18 rfl (m := 142) rfl rfl rfl ?_
 intro X hX _
 refine c_knowT (φ := DefOK []) DefOK.nil ?_
 have H := h
 unfold shape_Rest.f at H
 clear h
 refine c_seq rfl ?_
 refine r_ord (l := [0, 1]) rfl (by kernel_rfl) (by kernel_rfl) ?_
 refine s_e rfl rfl (e_box rfl rfl rfl rfl) ?_
 intro b3_
 refine s_e rfl rfl (e_alloc rfl rfl rfl ZR4) ?_
 intro b4_
 refine s_end ?_
 refine q_seq ?_
 refine c_seq rfl ?_
 refine r_ord (l := [0, 1, 2, 3, 4]) rfl (by kernel_rfl) (by kernel_rfl) ?_
 refine s_v rfl rfl rfl rfl (v_ldA [.int .i64 a0_0, .int .i64 a0_1, .int .i64 a0_2, .int .i64 a0_3, .int .i64 a0_4, .int .i64 a0_5, .int .i64 a0_6] 1 rfl Try.underlying23 rfl SZ23 rfl rfl rfl rfl) ?_
 refine s_v rfl rfl rfl rfl (v_move rfl rfl) ?_
 refine s_v rfl rfl rfl rfl (v_build (places := #[(0, 7), (7, 1)]) #[.int .i64 a0_0, .int .i64 a0_1, .int .i64 a0_2, .int .i64 a0_3, .int .i64 a0_4, .int .i64 a0_5, .int .i64 a0_6, .slice A1 l1.length c1] rfl ZR63 Try.underlying63 (by kernel_rfl) rfl (by kernel_rfl)) ?_
 refine s_e rfl rfl (e_alloc rfl rfl rfl ZR63) ?_
 intro b6_
 refine s_e rfl rfl (e_stA 0 rfl rfl SZ63 rfl rfl rfl rfl rfl rfl) ?_
 refine s_end ?_
 refine q_seq ?_
 refine c_seq rfl ?_
 refine c_seq rfl ?_
 refine r_ord (l := [0, 1, 2, 3]) rfl (by kernel_rfl) (by kernel_rfl) ?_
 refine s_v rfl rfl rfl rfl (v_ldA [.int .i64 a0_0, .int .i64 a0_1, .int .i64 a0_2, .int .i64 a0_3, .int .i64 a0_4, .int .i64 a0_5, .int .i64 a0_6] 2 rfl Try.underlying23 rfl SZ23 rfl rfl rfl rfl) ?_
 refine s_v rfl rfl rfl rfl (v_move rfl rfl) ?_
 obtain ⟨t14_, e15_, H⟩ := bind_s H
 refine s_e rfl rfl (e_callF [4] #[.agg #[.int .i64 a0_0, .int .i64 a0_1, .int .i64 a0_2, .int .i64 a0_3, .int .i64 a0_4, .int .i64 a0_5, .int .i64 a0_6], .slice A1 l1.length c1] rfl rfl rfl rfl rfl Try.func17 rfl (by decide) rfl rfl rfl rfl (fun w ht => shape_Right_con _ a0_0 a0_1 a0_2 a0_3 a0_4 a0_5 a0_6 A1 c1 l1 t14_ e15_ w _)) ?_
 refine s_v rfl rfl rfl rfl (v_not rfl rfl) ?_
 refine s_end ?_
 refine q_seq ?_
 rcases Bool.eq_false_or_eq_true (!t14_) with h16_ | h16_
 replace H := ite_n (not_t (bnot_t h16_)) H
 refine c_cond rfl rfl (fun _ => ?_) (fun h17_ => absurd (h17_.symm.trans h16_) (by decide))
 refine c_seq rfl ?_
 refine r_ord (l := [0]) rfl (by kernel_rfl) (by kernel_rfl) ?_
 refine s_e rfl rfl (e_st 1 rfl rfl SZ4 rfl rfl rfl rfl (blt_lt rfl)) ?_
 refine s_end ?_
 refine q_seq ?_
 refine c_ret rfl ?_
 refine q_then_ret ?_
 have e_ := Option.some.inj H
 subst e_
 exact q_retD (Ds := []) 3 rfl List.nodup_nil (fun _ h => (by cases h)) [1] rfl (by decide) (cellsB.cons cellsB.nil) (.inl rfl) rfl (vs := [.bool false]) (.cell 0 rfl Try.underlying4 rfl rfl rfl .nil) (hX)
 replace H := ite_y (bnot_f h16_) H
 refine c_cond rfl rfl (fun h18_ => absurd (h18_.symm.trans h16_) (by decide)) (fun _ => ?_)
 refine c_skip rfl ?_
 refine q_seq ?_
 refine c_seq rfl ?_
 refine r_ord (l := [0, 1, 2, 3, 4]) rfl (by kernel_rfl) (by kernel_rfl) ?_
 refine s_v rfl rfl rfl rfl (v_ldA [.int .i64 a0_0, .int .i64 a0_1, .int .i64 a0_2, .int .i64 a0_3, .int .i64 a0_4, .int .i64 a0_5, .int .i64 a0_6] 2 rfl Try.underlying23 rfl SZ23 rfl rfl rfl rfl) ?_
 refine s_v rfl rfl rfl rfl (v_move rfl rfl) ?_
 obtain ⟨t24_, e25_, H⟩ := bind_s H
 refine s_e rfl rfl (e_callF [4] #[.agg #[.int .i64 a0_0, .int .i64 a0_1, .int .i64 a0_2, .int .i64 a0_3, .int .i64 a0_4, .int .i64 a0_5, .int .i64 a0_6], .slice A1 l1.length c1, .int .i64 0] rfl rfl rfl rfl rfl Try.func9 rfl (by decide) rfl rfl rfl rfl (fun w ht => shape_Level_con _ a0_0 a0_1 a0_2 a0_3 a0_4 a0_5 a0_6 A1 c1 l1 0 t24_ e25_ w _)) ?_
 intro A26_ c27_
 refine s_e rfl rfl (e_alloc rfl rfl rfl ZR24) ?_
 intro b28_
 refine s_e rfl rfl (e_st 0 rfl rfl SZ24 rfl rfl rfl rfl (blt_lt rfl)) ?_
 refine s_end ?_
 refine q_seq ?_
 refine c_seq rfl ?_
 refine r_ord (l := [0, 1, 2]) rfl (by kernel_rfl) (by kernel_rfl) ?_
 refine s_v rfl rfl rfl rfl (v_ld 0 rfl Try.underlying24 rfl rfl rfl rfl) ?_
 obtain ⟨n32_, H⟩ := ite_no H
 refine s_e rfl rfl (e_callF [1] #[.slice A26_ t24_.length c27_] rfl rfl rfl rfl rfl Try.func44 rfl (by decide) rfl rfl rfl rfl (fun w ht => slices_Clone_uint64_uint64_own A26_ c27_ t24_ n32_ w _)) ?_
 intro ro33_ hr34_
 refine s_v rfl rfl rfl rfl (v_assign rfl rfl) ?_
 refine s_end ?_
 refine q_seq ?_
 refine c_seq rfl ?_
 refine c_seq rfl ?_
 refine r_ord (l := [0, 1, 2, 3]) rfl (by kernel_rfl) (by kernel_rfl) ?_
 refine s_v rfl rfl rfl rfl (v_move rfl rfl) ?_
 obtain ⟨t39_, e40_, H⟩ := bind_s H
 refine s_e rfl rfl (e_callF [8] #[.slice A2 l2.length c2] rfl rfl rfl rfl rfl Try.func45 rfl (by decide) rfl rfl rfl rfl (fun w ht => slices_Concat_cover_Entry_cover_Entry_con _ A2 c2 l2 t39_ e40_ w _)) ?_
 intro A41_ c42_
 refine s_v rfl rfl rfl rfl (v_len rfl rfl rfl Try.underlying78 rfl rfl) ?_
 refine s_v rfl rfl rfl rfl (v_move rfl rfl) ?_
 refine s_end ?_
 refine q_seq ?_
 refine c_block rfl ?_
 refine c_loop (σ := Nat × Int × Ro × List Int) (fun s_ : Nat × Int × Ro × List Int => match s_ with | (k, x54_, ro51_, xs52_) => shape_Rest.l0 k a0_0 a0_1 a0_2 a0_3 a0_4 a0_5 a0_6 l1 t24_ t39_ x54_ xs52_ = some r0 ∧ ORow 1 (fun x => [.int .u64 x]) ro51_ xs52_) (fun s_ : Nat × Int × Ro × List Int => match s_ with | (k, x54_, ro51_, xs52_) => k) (fun s_ : Nat × Int × Ro × List Int => match s_ with | (k, x54_, ro51_, xs52_) => [(1, .slice A1 l1.length c1), (3, .pointer (some ⟨b3_, 0, none⟩)), (6, .pointer (some ⟨b4_, 0, none⟩)), (7, .pointer (some ⟨b6_, 0, none⟩)), (8, .pointer (some ⟨b28_, 0, none⟩)), (9, .slice (OA ro51_) xs52_.length (OC ro51_)), (34, .slice A41_ t39_.length c42_), (35, .int .i64 (t39_.length : Int)), (36, .int .i64 x54_)]) (fun s_ : Nat × Int × Ro × List Int => match s_ with | (k, x54_, ro51_, xs52_) => [.f (KC k81 A41_ c42_ t39_), OE 25 ro51_, .b b28_ (.cells #[.slice A26_ t24_.length c27_] 24 (0, 0)), .f (KC (Kd.int .u64) A26_ c27_ t24_), .b b6_ (.cells #[.int .i64 a0_0, .int .i64 a0_1, .int .i64 a0_2, .int .i64 a0_3, .int .i64 a0_4, .int .i64 a0_5, .int .i64 a0_6, .slice A1 l1.length c1] 63 (0, 0)), .b b4_ (.cells #[.bool false] 4 (0, 0)), .b b3_ (.cells #[.int .i64 a0_0, .int .i64 a0_1, .int .i64 a0_2, .int .i64 a0_3, .int .i64 a0_4, .int .i64 a0_5, .int .i64 a0_6] 23 (0, 0)), .f (DefOK []), .f (KC (Kd.int .u64) A1 c1 l1), .f (KC (Kd.slice 81 k81) A2 c2 l2)]) (k, 0, ro33_, t24_) [0, 1, 2, 3, 4, 5, 6, 7, 8, 9] rfl ⟨H, hr34_⟩ (subF_spec ⟨rfl, rfl, rfl, rfl, rfl, rfl, rfl, rfl, rfl, trivial⟩) rfl (by decide) ?_
 rintro ⟨k0_, x54_, ro51_, xs52_⟩ hs65_
 clear H
 obtain ⟨H, hr53_⟩ : shape_Rest.l0 k0_ a0_0 a0_1 a0_2 a0_3 a0_4 a0_5 a0_6 l1 t24_ t39_ x54_ xs52_ = some r0 ∧ ORow 1 (fun x => [.int .u64 x]) ro51_ xs52_ := hs65_
 try clear hs65_
 rcases k0_ with _ | k0_
 exact none_no (show none = _ from H)
 unfold shape_Rest.l0 at H
 have hko_0 : k0_ ≤ k0_ := Nat.le_refl _
 refine c_seq rfl ?_
 refine r_ord (l := [0]) rfl (by kernel_rfl) (by kernel_rfl) ?_
 refine s_v rfl rfl rfl rfl (v_arith rfl rfl rfl rfl) ?_
 refine s_end ?_
 refine q_seq ?_
 refine c_seq rfl ?_
 rcases Bool.eq_false_or_eq_true (decide ((x54_ : Int) < (t39_.length : Int))) with h69_ | h69_
 replace H := ite_y (dec_t h69_) H
 refine c_cond rfl rfl (fun _ => ?_) (fun h70_ => absurd (h70_.symm.trans h69_) (by decide))
 refine c_skip rfl ?_
 refine q_seq ?_
 refine c_seq rfl ?_
 refine c_block rfl ?_
 refine c_seq rfl ?_
 refine r_ord (l := [0, 1, 2, 3]) rfl (by kernel_rfl) (by kernel_rfl) ?_
 obtain ⟨n80_, H⟩ := ite_no H
 refine s_v rfl rfl rfl rfl (v_iaK (i := 0) rfl Try.underlying78 SZ81 rfl rfl rfl rfl n80_ (dec_t h69_)) ?_
 refine s_v rfl rfl rfl rfl (v_ldKA z81 [.int .u64 ((rd_T81 t39_ x54_).f0), .int .u64 ((rd_T81 t39_ x54_).f1), .int .u64 ((rd_T81 t39_ x54_).f2)] 0 rfl Try.underlying81 rfl SZ81 rfl rfl rfl rfl n80_ (dec_t h69_) (fun w K h => k81_open h)) ?_
 refine s_e rfl rfl (e_alloc rfl rfl rfl ZR81) ?_
 intro b81_
 refine s_e rfl rfl (e_stA 0 rfl rfl SZ81 rfl rfl rfl rfl rfl rfl) ?_
 refine s_end ?_
 refine q_seq ?_
 refine r_ord (l := [0, 1, 2, 3, 4, 5]) rfl (by kernel_rfl) (by kernel_rfl) ?_
 refine s_v rfl rfl rfl rfl (v_move rfl rfl) ?_
 refine s_v rfl rfl rfl rfl (v_fa rfl Try.underlying81 rfl SZ25 rfl) ?_
 refine s_v rfl rfl rfl rfl (v_ld 0 rfl Try.underlying25 rfl rfl rfl rfl) ?_
 refine s_e rfl rfl (e_bslice #[.int .u64 ((rd_T81 t39_ x54_).f0)] (.int .u64 0) rfl rfl rfl Try.underlying24 SZ25 ZR25 (by decide) rfl (by kernel_rfl)) ?_
 intro b82_
 obtain ⟨n83_, H⟩ := ite_no H
 refine s_e rfl rfl (e_appO (enc := (fun x => [.int .u64 x])) (v := ((rd_T81 t39_ x54_).f0)) (xs := xs52_) (ro := ro51_) (z := (.int .u64 0)) (m := 1) (bytes := 8) (i := 0) (j := 3) rfl rfl rfl rfl rfl rfl Try.underlying24 (by kernel_rfl) rfl (by decide) rfl rfl hr53_ rfl rfl rfl rfl (by simp [Value.oneCell']) (by omega) (by simp only [maxLen]; omega)) ?_
 intro ro84_ hr85_ sm86_
 refine s_v rfl rfl rfl rfl (v_assign rfl rfl) ?_
 refine s_end ?_
 refine q_block ?_
 refine q_seq ?_
 refine r_ord (l := [0, 1]) rfl (by kernel_rfl) (by kernel_rfl) ?_
 refine s_v rfl rfl rfl rfl (v_arith rfl rfl rfl rfl) ?_
 refine s_v rfl rfl rfl rfl (v_move rfl rfl) ?_
 refine s_end ?_
 exact q_again (k0_, IntKind.wrap .i64 (x54_ + 1), ro84_, (xs52_ ++ [(rd_T81 t39_ x54_).f0])) [2, 3, 4, 5, 6, 7, 8, 9, 10, 11] ⟨H, hr85_⟩ (Nat.lt_succ_of_le hko_0) (subF_spec ⟨rfl, rfl, rfl, rfl, rfl, rfl, rfl, rfl, rfl, trivial⟩) rfl (by decide)
 replace H := ite_n (dec_f h69_) H
 refine c_cond rfl rfl (fun h87_ => absurd (h87_.symm.trans h69_) (by decide)) (fun _ => ?_)
 refine c_exit (i := 0) rfl rfl ?_
 refine q_then_exit ?_
 refine q_then_exit ?_
 refine q_block_here rfl ?_
 refine q_seq ?_
 refine c_seq rfl ?_
 refine c_seq rfl ?_
 refine r_ord (l := [0, 1, 2]) rfl (by kernel_rfl) (by kernel_rfl) ?_
 refine s_v rfl rfl rfl rfl (v_move rfl rfl) ?_
 refine s_v rfl rfl rfl rfl (v_len rfl rfl rfl Try.underlying24 rfl rfl) ?_
 refine s_v rfl rfl rfl rfl (v_move rfl rfl) ?_
 refine s_end ?_
 refine q_seq ?_
 refine c_block rfl ?_
 refine c_loop (σ := Nat × Int) (fun s_ : Nat × Int => match s_ with | (k, x101_) => shape_Rest.l1 k a0_0 a0_1 a0_2 a0_3 a0_4 a0_5 a0_6 l1 t24_ xs52_ x101_ = some r0) (fun s_ : Nat × Int => match s_ with | (k, x101_) => k) (fun s_ : Nat × Int => match s_ with | (k, x101_) => [(1, .slice A1 l1.length c1), (3, .pointer (some ⟨b3_, 0, none⟩)), (6, .pointer (some ⟨b4_, 0, none⟩)), (7, .pointer (some ⟨b6_, 0, none⟩)), (8, .pointer (some ⟨b28_, 0, none⟩)), (9, .slice (OA ro51_) xs52_.length (OC ro51_)), (47, .int .i64 (l1.length : Int)), (48, .int .i64 x101_)]) (fun s_ : Nat × Int => match s_ with | (k, x101_) => [.f (KC k81 A41_ c42_ t39_), OE 25 ro51_, .b b28_ (.cells #[.slice A26_ t24_.length c27_] 24 (0, 0)), .f (KC (Kd.int .u64) A26_ c27_ t24_), .b b6_ (.cells #[.int .i64 a0_0, .int .i64 a0_1, .int .i64 a0_2, .int .i64 a0_3, .int .i64 a0_4, .int .i64 a0_5, .int .i64 a0_6, .slice A1 l1.length c1] 63 (0, 0)), .b b4_ (.cells #[.bool false] 4 (0, 0)), .b b3_ (.cells #[.int .i64 a0_0, .int .i64 a0_1, .int .i64 a0_2, .int .i64 a0_3, .int .i64 a0_4, .int .i64 a0_5, .int .i64 a0_6] 23 (0, 0)), .f (DefOK []), .f (KC (Kd.int .u64) A1 c1 l1), .f (KC (Kd.slice 81 k81) A2 c2 l2)]) (k0_, 0) [0, 1, 2, 3, 4, 5, 6, 7, 8, 9] rfl H (subF_spec ⟨rfl, rfl, rfl, rfl, rfl, rfl, rfl, rfl, trivial⟩) rfl (by decide) ?_
 rintro ⟨k1_, x101_⟩ hs116_
 clear H
 have H : shape_Rest.l1 k1_ a0_0 a0_1 a0_2 a0_3 a0_4 a0_5 a0_6 l1 t24_ xs52_ x101_ = some r0 := hs116_
 try clear hs116_
 rcases k1_ with _ | k1_
 exact none_no (show none = _ from H)
 unfold shape_Rest.l1 at H
 have hko_1 : k1_ ≤ k1_ := Nat.le_refl _
 refine c_seq rfl ?_
 refine r_ord (l := [0]) rfl (by kernel_rfl) (by kernel_rfl) ?_
 refine s_v rfl rfl rfl rfl (v_arith rfl rfl rfl rfl) ?_
 refine s_end ?_
 refine q_seq ?_
 refine c_seq rfl ?_
 rcases Bool.eq_false_or_eq_true (decide ((x101_ : Int) < (l1.length : Int))) with h120_ | h120_
 replace H := ite_y (dec_t h120_) H
 refine c_cond rfl rfl (fun _ => ?_) (fun h121_ => absurd (h121_.symm.trans h120_) (by decide))
 refine c_skip rfl ?_
 refine q_seq ?_
 refine c_seq rfl ?_
 refine c_block rfl ?_
 refine c_seq rfl ?_
 refine r_ord (l := [0, 1]) rfl (by kernel_rfl) (by kernel_rfl) ?_
 refine s_v rfl rfl rfl rfl (v_move rfl rfl) ?_
 refine s_v rfl rfl rfl rfl (v_assign rfl rfl) ?_
 refine s_end ?_
 refine q_seq ?_
 refine c_seq rfl ?_
 refine r_ord (l := [0, 1, 2, 3, 4, 5, 6, 7, 8, 9, 10, 11]) rfl (by kernel_rfl) (by kernel_rfl) ?_
 refine s_v rfl rfl rfl rfl (v_ldA [.int .i64 a0_0, .int .i64 a0_1, .int .i64 a0_2, .int .i64 a0_3, .int .i64 a0_4, .int .i64 a0_5, .int .i64 a0_6] 6 rfl Try.underlying23 rfl SZ23 rfl rfl rfl rfl) ?_
 refine s_v rfl rfl rfl rfl (v_move rfl rfl) ?_
 obtain ⟨⟨t141_, t142_, t143_⟩, e144_, H⟩ := bind_s H
 refine s_e rfl rfl (e_callF [] #[.agg #[.int .i64 a0_0, .int .i64 a0_1, .int .i64 a0_2, .int .i64 a0_3, .int .i64 a0_4, .int .i64 a0_5, .int .i64 a0_6], .int .i64 x101_] rfl rfl rfl rfl rfl Try.func46 rfl (by decide) rfl rfl rfl rfl (fun w ht => plan_Where_con a0_0 a0_1 a0_2 a0_3 a0_4 a0_5 a0_6 x101_ t141_ t142_ t143_ e144_ w _)) ?_
 refine s_v rfl rfl rfl rfl (v_fld rfl Try.underlying83 rfl Try.underlying3 rfl rfl rfl) ?_
 refine s_v rfl rfl rfl rfl (v_arith rfl rfl rfl rfl) ?_
 refine s_v rfl rfl rfl rfl (v_move rfl rfl) ?_
 rcases Bool.eq_false_or_eq_true ((t141_ : Int) == 2) with h145_ | h145_
 replace H := ite_y (ibeq_t h145_) H
 refine s_splitv (d := 56) (t := (t141_ : Int) == 2) rfl (fun _ => ?_) (fun h146_ => absurd (h146_.symm.trans h145_) (by decide))
 refine s_vg rfl rfl rfl rfl (v_move rfl rfl) ?_
 refine s_vg rfl rfl rfl rfl (v_move rfl rfl) ?_
 obtain ⟨n147_, H⟩ := ite_no H
 refine s_vg rfl rfl rfl rfl (v_iaK (i := 8) rfl Try.underlying24 SZ25 rfl rfl rfl rfl n147_ (dec_t h120_)) ?_
 refine s_vg rfl rfl rfl rfl (v_ldK (v := .int .u64 (rd l1 x101_)) 0 8 rfl Try.underlying25 rfl rfl rfl rfl n147_ (dec_t h120_) (fun w K h => h)) ?_
 refine s_vg rfl rfl rfl rfl (v_arith rfl rfl rfl rfl) ?_
 refine s_v rfl rfl rfl rfl (v_pick rfl rfl rfl rfl) ?_
 refine s_end ?_
 refine q_seq ?_
 rcases Bool.eq_false_or_eq_true ((rd l1 x101_ : Int) != 0) with h148_ | h148_
 replace H := ite_n (ibne_t h148_) H
 refine c_cond rfl rfl (fun _ => ?_) (fun h149_ => absurd (h149_.symm.trans h148_) (by decide))
 refine c_seq rfl ?_
 refine r_ord (l := [0]) rfl (by kernel_rfl) (by kernel_rfl) ?_
 refine s_e rfl rfl (e_st 5 rfl rfl SZ4 rfl rfl rfl rfl (blt_lt rfl)) ?_
 refine s_end ?_
 refine q_seq ?_
 refine c_ret rfl ?_
 refine q_block_ret ?_
 refine q_then_ret ?_
 refine q_then_ret ?_
 refine q_block_ret ?_
 refine q_then_ret ?_
 have e_ := Option.some.inj H
 subst e_
 exact q_retD (Ds := []) 7 rfl List.nodup_nil (fun _ h => (by cases h)) [5] rfl (by decide) (cellsB.cons cellsB.nil) (.inl rfl) rfl (vs := [.bool false]) (.cell 0 rfl Try.underlying4 rfl rfl rfl .nil) (hX)
 replace H := ite_y (ibne_f h148_) H
 refine c_cond rfl rfl (fun h150_ => absurd (h150_.symm.trans h148_) (by decide)) (fun _ => ?_)
 refine c_skip rfl ?_
 refine q_block ?_
 refine q_seq ?_
 refine r_ord (l := [0, 1]) rfl (by kernel_rfl) (by kernel_rfl) ?_
 refine s_v rfl rfl rfl rfl (v_arith rfl rfl rfl rfl) ?_
 refine s_v rfl rfl rfl rfl (v_move rfl rfl) ?_
 refine s_end ?_
 exact q_again (k1_, IntKind.wrap .i64 (x101_ + 1)) [0, 1, 2, 3, 4, 5, 6, 7, 8, 9] H (Nat.lt_succ_of_le hko_1) (subF_spec ⟨rfl, rfl, rfl, rfl, rfl, rfl, rfl, rfl, trivial⟩) rfl (by decide)
 replace H := ite_n (ibeq_f h145_) H
 refine s_splitv (d := 56) (t := (t141_ : Int) == 2) rfl (fun h151_ => absurd (h151_.symm.trans h145_) (by decide)) (fun _ => ?_)
 refine s_no rfl rfl rfl rfl ?_
 refine s_no rfl rfl rfl rfl ?_
 refine s_no rfl rfl rfl rfl ?_
 refine s_no rfl rfl rfl rfl ?_
 refine s_no rfl rfl rfl rfl ?_
 refine s_v rfl rfl rfl rfl (v_pick rfl rfl rfl rfl) ?_
 refine s_end ?_
 refine q_seq ?_
 refine c_cond0 rfl rfl ?_
 refine c_skip rfl ?_
 refine q_block ?_
 refine q_seq ?_
 refine r_ord (l := [0, 1]) rfl (by kernel_rfl) (by kernel_rfl) ?_
 refine s_v rfl rfl rfl rfl (v_arith rfl rfl rfl rfl) ?_
 refine s_v rfl rfl rfl rfl (v_move rfl rfl) ?_
 refine s_end ?_
 exact q_again (k1_, IntKind.wrap .i64 (x101_ + 1)) [0, 1, 2, 3, 4, 5, 6, 7, 8, 9] H (Nat.lt_succ_of_le hko_1) (subF_spec ⟨rfl, rfl, rfl, rfl, rfl, rfl, rfl, rfl, trivial⟩) rfl (by decide)
 replace H := ite_n (dec_f h120_) H
 refine c_cond rfl rfl (fun h152_ => absurd (h152_.symm.trans h120_) (by decide)) (fun _ => ?_)
 refine c_exit (i := 2) rfl rfl ?_
 refine q_then_exit ?_
 refine q_then_exit ?_
 refine q_block_here rfl ?_
 refine q_seq ?_
 refine c_seq rfl ?_
 refine c_seq rfl ?_
 refine r_ord (l := [0, 1, 2]) rfl (by kernel_rfl) (by kernel_rfl) ?_
 refine s_v rfl rfl rfl rfl (v_fa rfl Try.underlying23 rfl SZ3 rfl) ?_
 refine s_v rfl rfl rfl rfl (v_ld 6 rfl Try.underlying3 rfl rfl rfl rfl) ?_
 refine s_v rfl rfl rfl rfl (v_move rfl rfl) ?_
 refine s_end ?_
 refine q_seq ?_
 refine c_block rfl ?_
 refine c_loopN (σ := Nat × Int × List Nat) (fun s_ : Nat × Int × List Nat => match s_ with | (k, x187_, Ds2_) => ⟨142, dsL Ds2_⟩) (fun s_ : Nat × Int × List Nat => match s_ with | (k, x187_, Ds2_) => shape_Rest.l2 k a0_0 a0_1 a0_2 a0_3 a0_4 a0_5 a0_6 l1 t24_ xs52_ x187_ = some r0 ∧ Ds2_.Nodup ∧ ∀ E ∈ Ds2_, w0.heap.size ≤ E) (fun s_ : Nat × Int × List Nat => match s_ with | (k, x187_, Ds2_) => k) (fun s_ : Nat × Int × List Nat => match s_ with | (k, x187_, Ds2_) => [(3, .pointer (some ⟨b3_, 0, none⟩)), (6, .pointer (some ⟨b4_, 0, none⟩)), (7, .pointer (some ⟨b6_, 0, none⟩)), (8, .pointer (some ⟨b28_, 0, none⟩)), (9, .slice (OA ro51_) xs52_.length (OC ro51_)), (65, .int .i64 a0_3), (66, .int .i64 x187_)]) (fun s_ : Nat × Int × List Nat => match s_ with | (k, x187_, Ds2_) => [.f (KC k81 A41_ c42_ t39_), OE 25 ro51_, .b b28_ (.cells #[.slice A26_ t24_.length c27_] 24 (0, 0)), .f (KC (Kd.int .u64) A26_ c27_ t24_), .b b6_ (.cells #[.int .i64 a0_0, .int .i64 a0_1, .int .i64 a0_2, .int .i64 a0_3, .int .i64 a0_4, .int .i64 a0_5, .int .i64 a0_6, .slice A1 l1.length c1] 63 (0, 0)), .b b4_ (.cells #[.bool false] 4 (0, 0)), .b b3_ (.cells #[.int .i64 a0_0, .int .i64 a0_1, .int .i64 a0_2, .int .i64 a0_3, .int .i64 a0_4, .int .i64 a0_5, .int .i64 a0_6] 23 (0, 0)), .f (DefOK Ds2_), .f (KC (Kd.int .u64) A1 c1 l1), .f (KC (Kd.slice 81 k81) A2 c2 l2)]) (k1_, 0, []) [0, 1, 2, 3, 4, 5, 6, 7, 8, 9] rfl rfl ⟨H, List.nodup_nil, (fun _ h => (by cases h))⟩ (subF_spec ⟨rfl, rfl, rfl, rfl, rfl, rfl, rfl, trivial⟩) rfl (by decide) ?_
 rintro ⟨k2_, x187_, Ds2_⟩ hs222_
 clear H
 obtain ⟨H, hnd_Ds2_, hge_Ds2_⟩ : shape_Rest.l2 k2_ a0_0 a0_1 a0_2 a0_3 a0_4 a0_5 a0_6 l1 t24_ xs52_ x187_ = some r0 ∧ Ds2_.Nodup ∧ ∀ E ∈ Ds2_, w0.heap.size ≤ E := hs222_
 try clear hs222_
 rcases k2_ with _ | k2_
 exact none_no (show none = _ from H)
 unfold shape_Rest.l2 at H
 have hko_2 : k2_ ≤ k2_ := Nat.le_refl _
 refine c_seq rfl ?_
 refine r_ord (l := [0]) rfl (by kernel_rfl) (by kernel_rfl) ?_
 refine s_v rfl rfl rfl rfl (v_arith rfl rfl rfl rfl) ?_
 refine s_end ?_
 refine q_seq ?_
 refine c_seq rfl ?_
 rcases Bool.eq_false_or_eq_true (decide ((x187_ : Int) < a0_3)) with h226_ | h226_
 replace H := ite_y (dec_t h226_) H
 refine c_cond rfl rfl (fun _ => ?_) (fun h227_ => absurd (h227_.symm.trans h226_) (by decide))
 refine c_skip rfl ?_
 refine q_seq ?_
 refine c_seq rfl ?_
 refine c_block rfl ?_
 refine c_seq rfl ?_
 refine r_ord (l := [0, 1]) rfl (by kernel_rfl) (by kernel_rfl) ?_
 refine s_v rfl rfl rfl rfl (v_move rfl rfl) ?_
 refine s_v rfl rfl rfl rfl (v_assign rfl rfl) ?_
 refine s_end ?_
 refine q_seq ?_
 refine c_seq rfl ?_
 refine r_ord (l := [0, 1, 2]) rfl (by kernel_rfl) (by kernel_rfl) ?_
 refine s_v rfl rfl rfl rfl (v_ldA [.int .i64 a0_0, .int .i64 a0_1, .int .i64 a0_2, .int .i64 a0_3, .int .i64 a0_4, .int .i64 a0_5, .int .i64 a0_6, .slice A1 l1.length c1] 4 rfl Try.underlying63 rfl SZ63 rfl rfl rfl rfl) ?_
 refine s_v rfl rfl rfl rfl (v_move rfl rfl) ?_
 refine s_e rfl rfl (e_callF [] #[.agg #[.int .i64 a0_0, .int .i64 a0_1, .int .i64 a0_2, .int .i64 a0_3, .int .i64 a0_4, .int .i64 a0_5, .int .i64 a0_6, .slice A1 l1.length c1], .int .i64 x187_] rfl rfl rfl rfl rfl Try.func26 rfl (by decide) rfl rfl rfl rfl (fun w ht => level_con a0_0 a0_1 a0_2 a0_3 a0_4 a0_5 a0_6 A1 l1.length c1 x187_ w _)) ?_
 intro b230_ b231_
 refine s_end ?_
 refine q_seq ?_
 refine c_block rfl ?_
 obtain ⟨n232_, H⟩ := ite_no H
 obtain ⟨n233_, H⟩ := ite_no H
 obtain ⟨κ_, hκ_, H⟩ := rng_intro H
 refine c_rangeD (N := (lvlF a0_0 a0_1 a0_2 a0_3 a0_4 a0_5 a0_6 l1 x187_).length) (S := fun ys => ys = (lvlF a0_0 a0_1 a0_2 a0_3 a0_4 a0_5 a0_6 l1 x187_).attach) (Sp := fun pre => pre <+: (lvlF a0_0 a0_1 a0_2 a0_3 a0_4 a0_5 a0_6 l1 x187_).attach) (fun x : {p : Int × Int // p ∈ (lvlF a0_0 a0_1 a0_2 a0_3 a0_4 a0_5 a0_6 l1 x187_)} => #[Value.int .i64 x.1.1, Value.int .u64 x.1.2]) (gf := 57) (lb := [.pointer (some ⟨b230_, 0, none⟩), .pointer (some ⟨b231_, 0, none⟩)]) (ps := #[72, 73]) [7] [0, 1, 2, 3, 4, 5, 6, 8, 9, 10, 11] (fun pre (s_ : Unit) => match s_ with | _ => (pre <+: (lvlF a0_0 a0_1 a0_2 a0_3 a0_4 a0_5 a0_6 l1 x187_).attach → rng (shape_Rest.b3 k2_ a0_0 a0_1 a0_2 a0_3 a0_4 a0_5 a0_6 l1 t24_) ((lvlF a0_0 a0_1 a0_2 a0_3 a0_4 a0_5 a0_6 l1 x187_).drop pre.length) κ_ () = some r0)) (fun pre c_ (s_ : Unit) => match s_ with | _ => c_ = .ret ∧ (pre <+: (lvlF a0_0 a0_1 a0_2 a0_3 a0_4 a0_5 a0_6 l1 x187_).attach → false = r0)) (fun s_ : Unit => match s_ with | _ => [.b b4_ (.cells #[.bool false] 4 (0, 0))]) (fun x => [(15, .int .u64 x.1.2), (73, .int .u64 x.1.2), (72, .int .i64 x.1.1)]) () rfl rfl rfl (fun _ => rfl) (by decide) Try.func57 rfl (by decide) rfl rfl (by decide) ?_ (fun _ => H) rfl ?_ ?_ ?_ ?_ ?_
 rintro _ e he
 simp only [List.mem_cons, List.not_mem_nil, or_false] at he
 rcases he with rfl
 exact .inl ⟨_, _, _, rfl⟩
 intro w ht
 refine lvl_stops _ (by decide) b230_ b231_ _ a0_0 a0_1 a0_2 a0_3 a0_4 a0_5 a0_6 A1 c1 l1 x187_ n232_ w (ht.at_ _ _ (List.mem_of_getElem? (i := 0) rfl)) (ht.at_ _ _ (List.mem_of_getElem? (i := 1) rfl)) ?_ ?_ ((ht.facts _ (List.mem_of_getElem? (i := 10) rfl)).mono ?_)
 exact tri_disj ht (i := 0) rfl (idx := [7]) rfl (by decide)
 exact tri_disj ht (i := 1) rfl (idx := [7]) rfl (by decide)
 exact fun x hx _ => List.mem_append_right _ (pick_ids (idx := [7]) rfl x hx)
 rintro lv_ ⟨⟨x234_, x235_⟩, hx_⟩ a_ W_ K_ hf_ hk_
 refine assign_one (F1 := [(15, .int .u64 x235_), (73, .int .u64 x235_), (72, .int .i64 x234_)] ++ _) (fr_params2 hf_ rfl rfl) hk_ ?_
 refine r_ord (l := [0]) rfl (by kernel_rfl) (by kernel_rfl) ?_
 refine s_v rfl rfl rfl rfl (v_assign rfl rfl) ?_
 refine s_end ?_
 exact q_assigned (fun _ _ h => h)
 rintro lv_ pre_ ⟨⟨x234_, x235_⟩, hx_⟩ _ W_ hI_ hlen_
 clear H
 obtain ⟨κ2_, r2_, H, hk_, hr_⟩ := rng_step (shape_Rest_tot3 k2_ a0_0 a0_1 a0_2 a0_3 a0_4 a0_5 a0_6 l1 t24_ n233_ n232_ (by assumption) (by assumption) (by assumption) r0) pre_ ⟨(x234_, x235_), hx_⟩ () trivial hI_
 unfold shape_Rest.b3 at H
 refine c_block rfl ?_
 obtain ⟨j253_, e254_, H⟩ := bind_s H
 refine c_join (β := Unit) (fun _ => True) (fun _ => [(6, .pointer (some ⟨b4_, 0, none⟩)), (83, .bool j253_)]) (fun _ => [.b b4_ (.cells #[.bool false] 4 (0, 0)), .f (fun w => w.heap[b230_]? = some (.cells #[.int .i64 a0_0, .int .i64 a0_1, .int .i64 a0_2, .int .i64 a0_3, .int .i64 a0_4, .int .i64 a0_5, .int .i64 a0_6, .slice A1 l1.length c1] 63 (0, 0))), .f (fun w => w.heap[b231_]? = some (.cells #[.int .i64 x187_] 3 (0, 0))), .f (KC k81 A41_ c42_ t39_), toFact (OE 25 ro51_), .f (fun w => w.heap[b28_]? = some (.cells #[.slice A26_ t24_.length c27_] 24 (0, 0))), .f (KC (Kd.int .u64) A26_ c27_ t24_), .f (fun w => w.heap[b6_]? = some (.cells #[.int .i64 a0_0, .int .i64 a0_1, .int .i64 a0_2, .int .i64 a0_3, .int .i64 a0_4, .int .i64 a0_5, .int .i64 a0_6, .slice A1 l1.length c1] 63 (0, 0))), .f (fun w => w.heap[b3_]? = some (.cells #[.int .i64 a0_0, .int .i64 a0_1, .int .i64 a0_2, .int .i64 a0_3, .int .i64 a0_4, .int .i64 a0_5, .int .i64 a0_6] 23 (0, 0))), .f (DefOK Ds2_), .f (KC (Kd.int .u64) A1 c1 l1), .f (KC (Kd.slice 81 k81) A2 c2 l2)]) rfl (fun _ _ => ?_) (fun J_ => ?_)
 rcases Bool.eq_false_or_eq_true j253_ with h255_ | h255_
 subst h255_
 replace H := ite_y rfl H
 refine c_cond1 rfl rfl ?_
 refine c_seq rfl ?_
 refine r_ord (l := [0]) rfl (by kernel_rfl) (by kernel_rfl) ?_
 refine s_e rfl rfl (e_st 0 rfl rfl SZ4 rfl rfl rfl rfl (blt_lt rfl)) ?_
 refine s_end ?_
 refine q_seq ?_
 refine c_ret rfl ?_
 refine q_block_ret ?_
 exact q_round_ret () [0] rfl rfl (by decide) ⟨rfl, fun h => (Option.some.inj H).trans (hr_ h)⟩
 subst h255_
 replace H := ite_n (by decide) H
 refine c_cond0 rfl rfl ?_
 refine c_skip rfl ?_
 refine q_block ?_
 exact q_round () [0] rfl rfl (by decide) (hk_ _ H)
 clear H
 have H := e254_
 clear e254_
 refine r_ord (l := [0, 1, 2, 3, 4, 5, 6, 7, 8, 9]) rfl (by kernel_rfl) (by kernel_rfl) ?_
 refine s_v rfl rfl rfl rfl (v_ldr 5 rfl Try.underlying24 rfl rfl rfl rfl) ?_
 refine s_v rfl rfl rfl rfl (v_move rfl rfl) ?_
 obtain ⟨t256_, e257_, H⟩ := bind_s H
 refine s_e rfl rfl (e_callF [6] #[.slice A26_ t24_.length c27_, .int .u64 x235_] rfl rfl rfl rfl rfl Try.func47 rfl (by decide) rfl rfl rfl rfl (fun w ht => slices_Contains_uint64_uint64_con _ A26_ c27_ t24_ x235_ t256_ e257_ w _)) ?_
 refine s_v rfl rfl rfl rfl (v_not rfl rfl) ?_
 refine s_v rfl rfl rfl rfl (v_move rfl rfl) ?_
 rcases Bool.eq_false_or_eq_true (!t256_) with h258_ | h258_
 replace H := ite_n (not_t (bnot_t h258_)) H
 refine s_splitv (d := 78) (t := !t256_) rfl (fun _ => ?_) (fun h259_ => absurd (h259_.symm.trans h258_) (by decide))
 refine s_no rfl rfl rfl rfl ?_
 refine s_no rfl rfl rfl rfl ?_
 refine s_no rfl rfl rfl rfl ?_
 refine s_no rfl rfl rfl rfl ?_
 refine s_v rfl rfl rfl rfl (v_pick rfl rfl rfl rfl) ?_
 refine s_end ?_
 have hq_0 := Option.some.inj H
 subst hq_0
 exact q_seq (c_frame (subF_spec (by exact ⟨rfl, rfl, trivial⟩)) (c_take [0, 1, 2, 3, 4, 5, 6, 7, 8, 9, 10, 11] rfl (by decide) (J_ () trivial)))
 replace H := ite_y (bnot_f h258_) H
 refine s_splitv (d := 78) (t := !t256_) rfl (fun h260_ => absurd (h260_.symm.trans h258_) (by decide)) (fun _ => ?_)
 refine s_vg rfl rfl rfl rfl (v_ldAr [.int .i64 a0_0, .int .i64 a0_1, .int .i64 a0_2, .int .i64 a0_3, .int .i64 a0_4, .int .i64 a0_5, .int .i64 a0_6, .slice A1 l1.length c1] 7 rfl Try.underlying63 rfl SZ63 rfl rfl rfl rfl) ?_
 refine s_vg rfl rfl rfl rfl (v_move rfl rfl) ?_
 obtain ⟨t261_, e262_, H⟩ := bind_s H
 refine s_eg rfl rfl (e_callF [10] #[.agg #[.int .i64 a0_0, .int .i64 a0_1, .int .i64 a0_2, .int .i64 a0_3, .int .i64 a0_4, .int .i64 a0_5, .int .i64 a0_6, .slice A1 l1.length c1], .int .u64 x235_] rfl rfl rfl rfl rfl Try.func48 rfl (by decide) rfl rfl rfl rfl (fun w ht => shape_words_settled_con _ a0_0 a0_1 a0_2 a0_3 a0_4 a0_5 a0_6 A1 c1 l1 x235_ t261_ e262_ w _)) ?_
 refine s_vg rfl rfl rfl rfl (v_not rfl rfl) ?_
 refine s_v rfl rfl rfl rfl (v_pick rfl rfl rfl rfl) ?_
 refine s_end ?_
 have hq_0 := Option.some.inj H
 subst hq_0
 exact q_seq (c_frame (subF_spec (by exact ⟨rfl, rfl, trivial⟩)) (c_take [0, 1, 2, 3, 4, 5, 6, 7, 8, 9, 10, 11] rfl (by decide) (J_ () trivial)))
 rintro D263_ ys_ _ hD_ hS_ hI_
 subst hS_
 have H := (hκ_ _).symm.trans (rng_done hI_)
 obtain ⟨hndD263_, hgeD263_⟩ := fresh_D 9 rfl hD_ hnd_Ds2_ hge_Ds2_
 refine q_give [0, 1, 2, 3, 4, 5, 6, 7, 8, 9, 10, 11, 12] rfl (by decide) (by simp [ids, Ent.id?]) (fun w h => h) ?_
 refine q_both 0 10 rfl rfl ?_
 refine q_weak 0 rfl (fun w h => DefOK.cons h) ?_
 refine q_block ?_
 refine q_block ?_
 refine q_seq ?_
 refine r_ord (l := [0, 1]) rfl (by kernel_rfl) (by kernel_rfl) ?_
 refine s_v rfl rfl rfl rfl (v_arith rfl rfl rfl rfl) ?_
 refine s_v rfl rfl rfl rfl (v_move rfl rfl) ?_
 refine s_end ?_
 exact q_againN (k2_, IntKind.wrap .i64 (x187_ + 1), (D263_ :: Ds2_)) [6, 7, 8, 9, 10, 3, 11, 0, 13, 14] rfl ⟨H, hndD263_, hgeD263_⟩ (Nat.lt_succ_of_le hko_2) (subF_spec ⟨rfl, rfl, rfl, rfl, rfl, rfl, rfl, trivial⟩) rfl (by decide)
 rintro D263_ c_ pre_ _ hD_ hS_ hI_
 obtain ⟨rfl, hres_⟩ := hI_
 have hres_ := hres_ hS_
 refine c_ret rfl ?_
 obtain ⟨hndD263_, hgeD263_⟩ := fresh_D 9 rfl hD_ hnd_Ds2_ hge_Ds2_
 refine q_give [0, 1, 2, 3, 4, 5, 6, 7, 8, 9, 10, 11, 12] rfl (by decide) (by simp [ids, Ent.id?]) (fun w h => h) ?_
 refine q_both 0 10 rfl rfl ?_
 refine q_weak 0 rfl (fun w h => DefOK.cons h) ?_
 refine q_block_ret ?_
 refine q_block_ret ?_
 refine q_then_ret ?_
 refine q_then_ret ?_
 refine q_block_ret ?_
 refine q_then_ret ?_
 subst hres_
 exact q_retD (Ds := (D263_ :: Ds2_)) 0 rfl hndD263_ hgeD263_ [3] rfl (by decide) (cellsB.cons cellsB.nil) (.inl rfl) rfl (vs := [.bool false]) (.cell 0 rfl Try.underlying4 rfl rfl rfl .nil) (hX)
 replace H := ite_n (dec_f h226_) H
 refine c_cond rfl rfl (fun h268_ => absurd (h268_.symm.trans h226_) (by decide)) (fun _ => ?_)
 refine c_exit (i := 4) rfl rfl ?_
 refine q_then_exit ?_
 refine q_then_exit ?_
 refine q_block_here rfl ?_
 refine q_seq ?_
 refine c_seq rfl ?_
 refine r_ord (l := [0, 1, 2, 3, 4]) rfl (by kernel_rfl) (by kernel_rfl) ?_
 refine s_v rfl rfl rfl rfl (v_fa rfl Try.underlying23 rfl SZ3 rfl) ?_
 refine s_v rfl rfl rfl rfl (v_ld 6 rfl Try.underlying3 rfl rfl rfl rfl) ?_
 refine s_v rfl rfl rfl rfl (v_arith rfl rfl rfl rfl) ?_
 obtain ⟨n273_, H⟩ := ite_no H
 obtain ⟨n274_, H⟩ := ite_no H
 refine s_e rfl rfl (e_makeI (kk := .i64) (bytes := 8) rfl rfl rfl Try.underlying86 (by kernel_rfl) rfl rfl n273_ (by omega) (by simp only [maxLen]; omega)) ?_
 intro b275_
 have mh276_ : (Int.toNat (IntKind.wrap .i64 (a0_2 + 1))) ≤ maxLen := by simp only [maxLen]; omega
 refine s_v rfl rfl rfl rfl (v_assign rfl rfl) ?_
 refine s_end ?_
 refine q_seq ?_
 refine c_seq rfl ?_
 refine c_seq rfl ?_
 refine r_ord (l := [0, 1, 2]) rfl (by kernel_rfl) (by kernel_rfl) ?_
 refine s_v rfl rfl rfl rfl (v_move rfl rfl) ?_
 refine s_v rfl rfl rfl rfl (v_len rfl rfl rfl Try.underlying24 rfl rfl) ?_
 refine s_v rfl rfl rfl rfl (v_move rfl rfl) ?_
 refine s_end ?_
 refine q_seq ?_
 refine c_block rfl ?_
 refine c_giveO (flat_int .u64) hr53_ [2, 0, 1, 3, 4, 5, 6, 7, 8, 9, 10] rfl (by decide) rfl ?_
 refine c_loop (σ := Nat × Int × List Int) (fun s_ : Nat × Int × List Int => match s_ with | (k, x313_, xs314_) => shape_Rest.l4 k a0_0 a0_1 a0_2 a0_3 a0_4 a0_5 a0_6 l1 xs52_ x313_ xs314_ = some r0 ∧ xs314_.length = (Int.toNat (IntKind.wrap .i64 (a0_2 + 1)))) (fun s_ : Nat × Int × List Int => match s_ with | (k, x313_, xs314_) => k) (fun s_ : Nat × Int × List Int => match s_ with | (k, x313_, xs314_) => [(3, .pointer (some ⟨b3_, 0, none⟩)), (6, .pointer (some ⟨b4_, 0, none⟩)), (7, .pointer (some ⟨b6_, 0, none⟩)), (16, .slice (some ⟨b275_, 0, none⟩) (Int.toNat (IntKind.wrap .i64 (a0_2 + 1))) (Int.toNat (IntKind.wrap .i64 (a0_2 + 1)))), (89, .slice (OA ro51_) xs52_.length (OC ro51_)), (90, .int .i64 (xs52_.length : Int)), (91, .int .i64 x313_)]) (fun s_ : Nat × Int × List Int => match s_ with | (k, x313_, xs314_) => [.f (KC (Kd.int .u64) (OA ro51_) (OC ro51_) xs52_), .b b275_ (.cells (RowI .i64 xs314_ ([])) 3 (0, 0)), .f (KC k81 A41_ c42_ t39_), .b b28_ (.cells #[.slice A26_ t24_.length c27_] 24 (0, 0)), .f (KC (Kd.int .u64) A26_ c27_ t24_), .b b6_ (.cells #[.int .i64 a0_0, .int .i64 a0_1, .int .i64 a0_2, .int .i64 a0_3, .int .i64 a0_4, .int .i64 a0_5, .int .i64 a0_6, .slice A1 l1.length c1] 63 (0, 0)), .b b4_ (.cells #[.bool false] 4 (0, 0)), .b b3_ (.cells #[.int .i64 a0_0, .int .i64 a0_1, .int .i64 a0_2, .int .i64 a0_3, .int .i64 a0_4, .int .i64 a0_5, .int .i64 a0_6] 23 (0, 0)), .f (DefOK Ds2_), .f (KC (Kd.int .u64) A1 c1 l1), .f (KC (Kd.slice 81 k81) A2 c2 l2)]) (k2_, 0, (List.replicate (Int.toNat (IntKind.wrap .i64 (a0_2 + 1))) (0 : Int))) [0, 1, 2, 3, 4, 5, 6, 7, 8, 9, 10] rfl ⟨H, List.length_replicate⟩ (subF_spec ⟨rfl, rfl, rfl, rfl, rfl, rfl, rfl, trivial⟩) rfl (by decide) ?_
 rintro ⟨k4_, x313_, xs314_⟩ hs334_
 clear H
 obtain ⟨H, lh_xs314_⟩ : shape_Rest.l4 k4_ a0_0 a0_1 a0_2 a0_3 a0_4 a0_5 a0_6 l1 xs52_ x313_ xs314_ = some r0 ∧ xs314_.length = (Int.toNat (IntKind.wrap .i64 (a0_2 + 1))) := hs334_
 try clear hs334_
 rcases k4_ with _ | k4_
 exact none_no (show none = _ from H)
 unfold shape_Rest.l4 at H
 have hko_4 : k4_ ≤ k4_ := Nat.le_refl _
 refine c_seq rfl ?_
 refine r_ord (l := [0]) rfl (by kernel_rfl) (by kernel_rfl) ?_
 refine s_v rfl rfl rfl rfl (v_arith rfl rfl rfl rfl) ?_
 refine s_end ?_
 refine q_seq ?_
 refine c_seq rfl ?_
 rcases Bool.eq_false_or_eq_true (decide ((x313_ : Int) < (xs52_.length : Int))) with h338_ | h338_
 replace H := ite_y (dec_t h338_) H
 refine c_cond rfl rfl (fun _ => ?_) (fun h339_ => absurd (h339_.symm.trans h338_) (by decide))
 refine c_skip rfl ?_
 refine q_seq ?_
 refine c_seq rfl ?_
 refine c_block rfl ?_
 refine c_seq rfl ?_
 refine r_ord (l := [0, 1, 2]) rfl (by kernel_rfl) (by kernel_rfl) ?_
 obtain ⟨n357_, H⟩ := ite_no H
 refine s_v rfl rfl rfl rfl (v_iaK (i := 0) rfl Try.underlying24 SZ25 rfl rfl rfl rfl n357_ (dec_t h338_)) ?_
 refine s_v rfl rfl rfl rfl (v_ldK (v := .int .u64 (rd xs52_ x313_)) 0 0 rfl Try.underlying25 rfl rfl rfl rfl n357_ (dec_t h338_) (fun w K h => h)) ?_
 refine s_v rfl rfl rfl rfl (v_assign rfl rfl) ?_
 refine s_end ?_
 refine q_seq ?_
 refine c_seq rfl ?_
 obtain ⟨⟨j381_, j382_, j383_, j384_, j385_, j386_⟩, e387_, H⟩ := bind_s H
 refine c_join (β := Unit) (fun _ => True) (fun _ => [(3, .pointer (some ⟨b3_, 0, none⟩)), (6, .pointer (some ⟨b4_, 0, none⟩)), (7, .pointer (some ⟨b6_, 0, none⟩)), (16, .slice (some ⟨b275_, 0, none⟩) (Int.toNat (IntKind.wrap .i64 (a0_2 + 1))) (Int.toNat (IntKind.wrap .i64 (a0_2 + 1)))), (89, .slice (OA ro51_) xs52_.length (OC ro51_)), (90, .int .i64 (xs52_.length : Int)), (91, .int .i64 x313_), (92, .bool (decide ((x313_ : Int) < (xs52_.length : Int)))), (93, .pointer (some (at0 (OA ro51_) x313_ 1))), (94, .int .u64 (rd xs52_ x313_)), (18, .int .u64 (rd xs52_ x313_)), (95, .agg #[.int .i64 a0_0, .int .i64 a0_1, .int .i64 a0_2, .int .i64 a0_3, .int .i64 a0_4, .int .i64 a0_5, .int .i64 a0_6, .slice A1 l1.length c1]), (96, .int .u64 (rd xs52_ x313_)), (97, .bool j381_), (98, .bool j382_), (99, .bool j383_), (102, .bool j384_), (103, .bool j385_), (108, .bool j386_)]) (fun _ => [.f (KC (Kd.int .u64) (OA ro51_) (OC ro51_) xs52_), .b b275_ (.cells (RowI .i64 xs314_ ([])) 3 (0, 0)), .f (KC k81 A41_ c42_ t39_), .b b28_ (.cells #[.slice A26_ t24_.length c27_] 24 (0, 0)), .f (KC (Kd.int .u64) A26_ c27_ t24_), .b b6_ (.cells #[.int .i64 a0_0, .int .i64 a0_1, .int .i64 a0_2, .int .i64 a0_3, .int .i64 a0_4, .int .i64 a0_5, .int .i64 a0_6, .slice A1 l1.length c1] 63 (0, 0)), .b b4_ (.cells #[.bool false] 4 (0, 0)), .b b3_ (.cells #[.int .i64 a0_0, .int .i64 a0_1, .int .i64 a0_2, .int .i64 a0_3, .int .i64 a0_4, .int .i64 a0_5, .int .i64 a0_6] 23 (0, 0)), .f (DefOK Ds2_), .f (KC (Kd.int .u64) A1 c1 l1), .f (KC (Kd.slice 81 k81) A2 c2 l2)]) rfl (fun _ _ => ?_) (fun J_ => ?_)
 rcases Bool.eq_false_or_eq_true j386_ with h388_ | h388_
 subst h388_
 replace H := ite_y rfl H
 refine c_cond1 rfl rfl ?_
 refine c_seq rfl ?_
 refine r_ord (l := [0]) rfl (by kernel_rfl) (by kernel_rfl) ?_
 refine s_e rfl rfl (e_st 6 rfl rfl SZ4 rfl rfl rfl rfl (blt_lt rfl)) ?_
 refine s_end ?_
 refine q_seq ?_
 refine c_ret rfl ?_
 refine q_then_ret ?_
 refine q_block_ret ?_
 refine q_then_ret ?_
 refine q_then_ret ?_
 refine q_block_ret ?_
 refine q_then_ret ?_
 have e_ := Option.some.inj H
 subst e_
 exact q_retD (Ds := Ds2_) 8 rfl hnd_Ds2_ hge_Ds2_ [6] rfl (by decide) (cellsB.cons cellsB.nil) (.inl rfl) rfl (vs := [.bool false]) (.cell 0 rfl Try.underlying4 rfl rfl rfl .nil) (hX)
 subst h388_
 replace H := ite_n (by decide) H
 refine c_cond0 rfl rfl ?_
 refine c_skip rfl ?_
 refine q_seq ?_
 refine r_ord (l := [0, 1, 2, 3, 4, 5, 6, 7]) rfl (by kernel_rfl) (by kernel_rfl) ?_
 refine s_v rfl rfl rfl rfl (v_move rfl rfl) ?_
 refine s_v rfl rfl rfl rfl (v_move rfl rfl) ?_
 refine s_e rfl rfl (e_callF [] #[.int .u64 (rd xs52_ x313_)] rfl rfl rfl rfl rfl Try.func27 rfl (by decide) rfl rfl rfl rfl (fun w ht => handle_Index_con (rd xs52_ x313_) w _)) ?_
 obtain ⟨n389_, H⟩ := ite_no H
 obtain ⟨n390_, H⟩ := ite_no H
 refine s_v rfl rfl rfl rfl (v_iaI rfl Try.underlying86 SZ3 rfl rfl n389_ n390_) ?_
 refine s_v rfl rfl rfl rfl (v_ldI 1 rfl Try.underlying3 rfl rfl rfl n389_ (lt_lh lh_xs314_ n390_)) ?_
 refine s_v rfl rfl rfl rfl (v_arith rfl rfl rfl rfl) ?_
 refine s_v rfl rfl rfl rfl (v_iaI rfl Try.underlying86 SZ3 rfl rfl n389_ n390_) ?_
 refine s_e rfl rfl (e_stI 1 rfl rfl SZ3 rfl rfl rfl n389_ (lt_lh lh_xs314_ n390_)) ?_
 refine s_end ?_
 refine q_block ?_
 refine q_seq ?_
 refine r_ord (l := [0, 1]) rfl (by kernel_rfl) (by kernel_rfl) ?_
 refine s_v rfl rfl rfl rfl (v_arith rfl rfl rfl rfl) ?_
 refine s_v rfl rfl rfl rfl (v_move rfl rfl) ?_
 refine s_end ?_
 exact q_again (k4_, IntKind.wrap .i64 (x313_ + 1), (xs314_.set (Int.toNat ((rd xs52_ x313_) % 4294967296)) (IntKind.wrap .i64 ((rd xs314_ ((rd xs52_ x313_) % 4294967296)) + 1)))) [0, 1, 2, 3, 4, 5, 6, 7, 8, 9, 10] ⟨H, (lh_set lh_xs314_)⟩ (Nat.lt_succ_of_le hko_4) (subF_spec ⟨rfl, rfl, rfl, rfl, rfl, rfl, rfl, trivial⟩) rfl (by decide)
 clear H
 have H := e387_
 clear e387_
 refine r_ord (l := [0, 1, 2, 3, 4, 5, 6, 7, 8, 9, 10, 11, 12, 13]) rfl (by kernel_rfl) (by kernel_rfl) ?_
 refine s_v rfl rfl rfl rfl (v_ldA [.int .i64 a0_0, .int .i64 a0_1, .int .i64 a0_2, .int .i64 a0_3, .int .i64 a0_4, .int .i64 a0_5, .int .i64 a0_6, .slice A1 l1.length c1] 5 rfl Try.underlying63 rfl SZ63 rfl rfl rfl rfl) ?_
 refine s_v rfl rfl rfl rfl (v_move rfl rfl) ?_
 obtain ⟨t391_, e392_, H⟩ := bind_s H
 refine s_e rfl rfl (e_callF [9] #[.agg #[.int .i64 a0_0, .int .i64 a0_1, .int .i64 a0_2, .int .i64 a0_3, .int .i64 a0_4, .int .i64 a0_5, .int .i64 a0_6, .slice A1 l1.length c1], .int .u64 (rd xs52_ x313_)] rfl rfl rfl rfl rfl Try.func49 rfl (by decide) rfl rfl rfl rfl (fun w ht => shape_words_names_con a0_0 a0_1 a0_2 a0_3 a0_4 a0_5 a0_6 A1 c1 l1 (rd xs52_ x313_) t391_ e392_ w _)) ?_
 refine s_v rfl rfl rfl rfl (v_not rfl rfl) ?_
 refine s_v rfl rfl rfl rfl (v_move rfl rfl) ?_
 rcases Bool.eq_false_or_eq_true (!t391_) with h393_ | h393_
 replace H := ite_n (not_t (bnot_t h393_)) H
 refine s_splitv (d := 99) (t := !t391_) rfl (fun _ => ?_) (fun h394_ => absurd (h394_.symm.trans h393_) (by decide))
 refine s_no rfl rfl rfl rfl ?_
 refine s_no rfl rfl rfl rfl ?_
 refine s_v rfl rfl rfl rfl (v_pick rfl rfl rfl rfl) ?_
 refine s_v rfl rfl rfl rfl (v_move rfl rfl) ?_
 refine s_no rfl rfl rfl rfl ?_
 refine s_no rfl rfl rfl rfl ?_
 refine s_no rfl rfl rfl rfl ?_
 refine s_no rfl rfl rfl rfl ?_
 refine s_v rfl rfl rfl rfl (v_pick rfl rfl rfl rfl) ?_
 refine s_end ?_
 have hq_0 := Option.some.inj H
 obtain ⟨ee_0, hq_1⟩ := Prod.mk.inj hq_0
 obtain ⟨ee_1, hq_2⟩ := Prod.mk.inj hq_1
 obtain ⟨ee_2, hq_3⟩ := Prod.mk.inj hq_2
 obtain ⟨ee_3, hq_4⟩ := Prod.mk.inj hq_3
 obtain ⟨ee_4, hq_5⟩ := Prod.mk.inj hq_4
 subst ee_0
 subst ee_1
 subst ee_2
 subst ee_3
 subst ee_4
 subst hq_5
 exact q_seq (c_frame (subF_spec (by exact ⟨rfl, rfl, rfl, rfl, rfl, rfl, rfl, rfl, rfl, rfl, rfl, rfl, rfl, rfl, rfl, rfl, rfl, rfl, rfl, trivial⟩)) (c_take [0, 1, 2, 3, 4, 5, 6, 7, 8, 9, 10] rfl (by decide) (J_ () trivial)))
 replace H := ite_y (bnot_f h393_) H
 refine s_splitv (d := 99) (t := !t391_) rfl (fun h395_ => absurd (h395_.symm.trans h393_) (by decide)) (fun _ => ?_)
 refine s_vg rfl rfl rfl rfl (v_move rfl rfl) ?_
 obtain ⟨t396_, e397_, H⟩ := bind_s H
 refine s_eg rfl rfl (e_callF [] #[.int .u64 (rd xs52_ x313_)] rfl rfl rfl rfl rfl Try.func50 rfl (by decide) rfl rfl rfl rfl (fun w ht => handle_Marked_con (rd xs52_ x313_) t396_ e397_ w _)) ?_
 refine s_v rfl rfl rfl rfl (v_pick rfl rfl rfl rfl) ?_
 refine s_v rfl rfl rfl rfl (v_move rfl rfl) ?_
 rcases Bool.eq_false_or_eq_true t396_ with h398_ | h398_
 subst h398_
 replace H := ite_y rfl H
 refine s_no rfl rfl rfl rfl ?_
 refine s_no rfl rfl rfl rfl ?_
 refine s_no rfl rfl rfl rfl ?_
 refine s_no rfl rfl rfl rfl ?_
 refine s_v rfl rfl rfl rfl (v_pick rfl rfl rfl rfl) ?_
 refine s_end ?_
 have hq_0 := Option.some.inj H
 obtain ⟨ee_0, hq_1⟩ := Prod.mk.inj hq_0
 obtain ⟨ee_1, hq_2⟩ := Prod.mk.inj hq_1
 obtain ⟨ee_2, hq_3⟩ := Prod.mk.inj hq_2
 obtain ⟨ee_3, hq_4⟩ := Prod.mk.inj hq_3
 obtain ⟨ee_4, hq_5⟩ := Prod.mk.inj hq_4
 subst ee_0
 subst ee_1
 subst ee_2
 subst ee_3
 subst ee_4
 subst hq_5
 exact q_seq (c_frame (subF_spec (by exact ⟨rfl, rfl, rfl, rfl, rfl, rfl, rfl, rfl, rfl, rfl, rfl, rfl, rfl, rfl, rfl, rfl, rfl, rfl, rfl, trivial⟩)) (c_take [0, 1, 2, 3, 4, 5, 6, 7, 8, 9, 10] rfl (by decide) (J_ () trivial)))
 subst h398_
 replace H := ite_n (by decide) H
 refine s_vg rfl rfl rfl rfl (v_ldA [.int .i64 a0_0, .int .i64 a0_1, .int .i64 a0_2, .int .i64 a0_3, .int .i64 a0_4, .int .i64 a0_5, .int .i64 a0_6, .slice A1 l1.length c1] 5 rfl Try.underlying63 rfl SZ63 rfl rfl rfl rfl) ?_
 refine s_vg rfl rfl rfl rfl (v_move rfl rfl) ?_
 obtain ⟨t399_, e400_, H⟩ := bind_s H
 refine s_eg rfl rfl (e_callF [9] #[.agg #[.int .i64 a0_0, .int .i64 a0_1, .int .i64 a0_2, .int .i64 a0_3, .int .i64 a0_4, .int .i64 a0_5, .int .i64 a0_6, .slice A1 l1.length c1], .int .u64 (rd xs52_ x313_)] rfl rfl rfl rfl rfl Try.func41 rfl (by decide) rfl rfl rfl rfl (fun w ht => shape_words_taken_con a0_0 a0_1 a0_2 a0_3 a0_4 a0_5 a0_6 A1 c1 l1 (rd xs52_ x313_) t399_ e400_ w _)) ?_
 refine s_vg rfl rfl rfl rfl (v_not rfl rfl) ?_
 refine s_v rfl rfl rfl rfl (v_pick rfl rfl rfl rfl) ?_
 refine s_end ?_
 have hq_0 := Option.some.inj H
 obtain ⟨ee_0, hq_1⟩ := Prod.mk.inj hq_0
 obtain ⟨ee_1, hq_2⟩ := Prod.mk.inj hq_1
 obtain ⟨ee_2, hq_3⟩ := Prod.mk.inj hq_2
 obtain ⟨ee_3, hq_4⟩ := Prod.mk.inj hq_3
 obtain ⟨ee_4, hq_5⟩ := Prod.mk.inj hq_4
 subst ee_0
 subst ee_1
 subst ee_2
 subst ee_3
 subst ee_4
 subst hq_5
 exact q_seq (c_frame (subF_spec (by exact ⟨rfl, rfl, rfl, rfl, rfl, rfl, rfl, rfl, rfl, rfl, rfl, rfl, rfl, rfl, rfl, rfl, rfl, rfl, rfl, trivial⟩)) (c_take [0, 1, 2, 3, 4, 5, 6, 7, 8, 9, 10] rfl (by decide) (J_ () trivial)))
 replace H := ite_n (dec_f h338_) H
 refine c_cond rfl rfl (fun h401_ => absurd (h401_.symm.trans h338_) (by decide)) (fun _ => ?_)
 refine c_exit (i := 8) rfl rfl ?_
 refine q_then_exit ?_
 refine q_then_exit ?_
 refine q_block_here rfl ?_
 refine q_seq ?_
 refine c_seq rfl ?_
 refine c_seq rfl ?_
 refine r_ord (l := [0]) rfl (by kernel_rfl) (by kernel_rfl) ?_
 refine s_v rfl rfl rfl rfl (v_assign rfl rfl) ?_
 refine s_end ?_
 refine q_seq ?_
 refine c_block rfl ?_
 refine c_loop (σ := Nat × Int) (fun s_ : Nat × Int => match s_ with | (k, x416_) => shape_Rest.l5 k a0_0 a0_1 a0_2 a0_3 a0_4 a0_5 a0_6 l1 xs314_ x416_ = some r0) (fun s_ : Nat × Int => match s_ with | (k, x416_) => k) (fun s_ : Nat × Int => match s_ with | (k, x416_) => [(3, .pointer (some ⟨b3_, 0, none⟩)), (6, .pointer (some ⟨b4_, 0, none⟩)), (7, .pointer (some ⟨b6_, 0, none⟩)), (16, .slice (some ⟨b275_, 0, none⟩) (Int.toNat (IntKind.wrap .i64 (a0_2 + 1))) (Int.toNat (IntKind.wrap .i64 (a0_2 + 1)))), (19, .int .i64 x416_)]) (fun s_ : Nat × Int => match s_ with | (k, x416_) => [.f (KC (Kd.int .u64) (OA ro51_) (OC ro51_) xs52_), .b b275_ (.cells (RowI .i64 xs314_ ([])) 3 (0, 0)), .f (KC k81 A41_ c42_ t39_), .b b28_ (.cells #[.slice A26_ t24_.length c27_] 24 (0, 0)), .f (KC (Kd.int .u64) A26_ c27_ t24_), .b b6_ (.cells #[.int .i64 a0_0, .int .i64 a0_1, .int .i64 a0_2, .int .i64 a0_3, .int .i64 a0_4, .int .i64 a0_5, .int .i64 a0_6, .slice A1 l1.length c1] 63 (0, 0)), .b b4_ (.cells #[.bool false] 4 (0, 0)), .b b3_ (.cells #[.int .i64 a0_0, .int .i64 a0_1, .int .i64 a0_2, .int .i64 a0_3, .int .i64 a0_4, .int .i64 a0_5, .int .i64 a0_6] 23 (0, 0)), .f (DefOK Ds2_), .f (KC (Kd.int .u64) A1 c1 l1), .f (KC (Kd.slice 81 k81) A2 c2 l2)]) (k4_, 1) [0, 1, 2, 3, 4, 5, 6, 7, 8, 9, 10] rfl H (subF_spec ⟨rfl, rfl, rfl, rfl, rfl, trivial⟩) rfl (by decide) ?_
 rintro ⟨k5_, x416_⟩ hs432_
 clear H
 have H : shape_Rest.l5 k5_ a0_0 a0_1 a0_2 a0_3 a0_4 a0_5 a0_6 l1 xs314_ x416_ = some r0 := hs432_
 try clear hs432_
 rcases k5_ with _ | k5_
 exact none_no (show none = _ from H)
 unfold shape_Rest.l5 at H
 have hko_5 : k5_ ≤ k5_ := Nat.le_refl _
 refine c_seq rfl ?_
 refine c_seq rfl ?_
 refine r_ord (l := [0, 1, 2, 3]) rfl (by kernel_rfl) (by kernel_rfl) ?_
 refine s_v rfl rfl rfl rfl (v_move rfl rfl) ?_
 refine s_v rfl rfl rfl rfl (v_fa rfl Try.underlying23 rfl SZ3 rfl) ?_
 refine s_v rfl rfl rfl rfl (v_ld 7 rfl Try.underlying3 rfl rfl rfl rfl) ?_
 refine s_v rfl rfl rfl rfl (v_arith rfl rfl rfl rfl) ?_
 refine s_end ?_
 refine q_seq ?_
 rcases Bool.eq_false_or_eq_true (decide ((x416_ : Int) ≤ a0_2)) with h436_ | h436_
 replace H := ite_y (dec_t h436_) H
 refine c_cond rfl rfl (fun _ => ?_) (fun h437_ => absurd (h437_.symm.trans h436_) (by decide))
 refine c_skip rfl ?_
 refine q_seq ?_
 refine c_seq rfl ?_
 refine c_block rfl ?_
 refine c_seq rfl ?_
 refine r_ord (l := [0, 1, 2, 3, 4, 5]) rfl (by kernel_rfl) (by kernel_rfl) ?_
 refine s_v rfl rfl rfl rfl (v_ldA [.int .i64 a0_0, .int .i64 a0_1, .int .i64 a0_2, .int .i64 a0_3, .int .i64 a0_4, .int .i64 a0_5, .int .i64 a0_6, .slice A1 l1.length c1] 5 rfl Try.underlying63 rfl SZ63 rfl rfl rfl rfl) ?_
 refine s_v rfl rfl rfl rfl (v_move rfl rfl) ?_
 obtain ⟨t454_, e455_, H⟩ := bind_s H
 refine s_e rfl rfl (e_callF [9] #[.agg #[.int .i64 a0_0, .int .i64 a0_1, .int .i64 a0_2, .int .i64 a0_3, .int .i64 a0_4, .int .i64 a0_5, .int .i64 a0_6, .slice A1 l1.length c1], .int .i64 x416_, .int .i64 0] rfl rfl rfl rfl rfl Try.func28 rfl (by decide) rfl rfl rfl rfl (fun w ht => shape_words_at_con a0_0 a0_1 a0_2 a0_3 a0_4 a0_5 a0_6 A1 c1 l1 x416_ 0 t454_ e455_ w _)) ?_
 obtain ⟨t456_, e457_, H⟩ := bind_s H
 refine s_e rfl rfl (e_callF [] #[.int .u64 t454_] rfl rfl rfl rfl rfl Try.func51 rfl (by decide) rfl rfl rfl rfl (fun w ht => slot_State_con t454_ t456_ e457_ w _)) ?_
 refine s_v rfl rfl rfl rfl (v_arith rfl rfl rfl rfl) ?_
 refine s_v rfl rfl rfl rfl (v_assign rfl rfl) ?_
 refine s_end ?_
 refine q_seq ?_
 obtain ⟨⟨j463_, j464_⟩, e465_, H⟩ := bind_s H
 refine c_join (β := Unit) (fun _ => True) (fun _ => [(3, .pointer (some ⟨b3_, 0, none⟩)), (6, .pointer (some ⟨b4_, 0, none⟩)), (7, .pointer (some ⟨b6_, 0, none⟩)), (16, .slice (some ⟨b275_, 0, none⟩) (Int.toNat (IntKind.wrap .i64 (a0_2 + 1))) (Int.toNat (IntKind.wrap .i64 (a0_2 + 1)))), (19, .int .i64 x416_), (117, .int .i64 x416_), (118, .pointer (some ⟨b3_, 2, none⟩)), (119, .int .i64 a0_2), (120, .bool (decide ((x416_ : Int) ≤ a0_2))), (123, .agg #[.int .i64 a0_0, .int .i64 a0_1, .int .i64 a0_2, .int .i64 a0_3, .int .i64 a0_4, .int .i64 a0_5, .int .i64 a0_6, .slice A1 l1.length c1]), (124, .int .i64 x416_), (125, .int .u64 t454_), (126, .int .i64 t456_), (127, .bool ((t456_ : Int) == 1)), (20, .bool ((t456_ : Int) == 1)), (128, .slice (some ⟨b275_, 0, none⟩) (Int.toNat (IntKind.wrap .i64 (a0_2 + 1))) (Int.toNat (IntKind.wrap .i64 (a0_2 + 1)))), (129, .int .i64 x416_), (130, .pointer (some ⟨b275_, Int.toNat x416_, none⟩)), (131, .int .i64 (rd xs314_ x416_)), (132, .bool (decide ((rd xs314_ x416_ : Int) > 1))), (133, .bool j463_), (141, .bool j464_)]) (fun _ => [.f (KC (Kd.int .u64) (OA ro51_) (OC ro51_) xs52_), .b b275_ (.cells (RowI .i64 xs314_ ([])) 3 (0, 0)), .f (KC k81 A41_ c42_ t39_), .b b28_ (.cells #[.slice A26_ t24_.length c27_] 24 (0, 0)), .f (KC (Kd.int .u64) A26_ c27_ t24_), .b b6_ (.cells #[.int .i64 a0_0, .int .i64 a0_1, .int .i64 a0_2, .int .i64 a0_3, .int .i64 a0_4, .int .i64 a0_5, .int .i64 a0_6, .slice A1 l1.length c1] 63 (0, 0)), .b b4_ (.cells #[.bool false] 4 (0, 0)), .b b3_ (.cells #[.int .i64 a0_0, .int .i64 a0_1, .int .i64 a0_2, .int .i64 a0_3, .int .i64 a0_4, .int .i64 a0_5, .int .i64 a0_6] 23 (0, 0)), .f (DefOK Ds2_), .f (KC (Kd.int .u64) A1 c1 l1), .f (KC (Kd.slice 81 k81) A2 c2 l2)]) rfl (fun _ _ => ?_) (fun J_ => ?_)
 rcases Bool.eq_false_or_eq_true j464_ with h466_ | h466_
 subst h466_
 replace H := ite_y rfl H
 refine c_cond1 rfl rfl ?_
 refine c_seq rfl ?_
 refine r_ord (l := [0]) rfl (by kernel_rfl) (by kernel_rfl) ?_
 refine s_e rfl rfl (e_st 6 rfl rfl SZ4 rfl rfl rfl rfl (blt_lt rfl)) ?_
 refine s_end ?_
 refine q_seq ?_
 refine c_ret rfl ?_
 refine q_block_ret ?_
 refine q_then_ret ?_
 refine q_then_ret ?_
 refine q_block_ret ?_
 refine q_then_ret ?_
 have e_ := Option.some.inj H
 subst e_
 exact q_retD (Ds := Ds2_) 8 rfl hnd_Ds2_ hge_Ds2_ [6] rfl (by decide) (cellsB.cons cellsB.nil) (.inl rfl) rfl (vs := [.bool false]) (.cell 0 rfl Try.underlying4 rfl rfl rfl .nil) (hX)
 subst h466_
 replace H := ite_n (by decide) H
 refine c_cond0 rfl rfl ?_
 refine c_skip rfl ?_
 refine q_block ?_
 refine q_seq ?_
 refine r_ord (l := [0, 1, 2]) rfl (by kernel_rfl) (by kernel_rfl) ?_
 refine s_v rfl rfl rfl rfl (v_move rfl rfl) ?_
 refine s_v rfl rfl rfl rfl (v_arith rfl rfl rfl rfl) ?_
 refine s_v rfl rfl rfl rfl (v_assign rfl rfl) ?_
 refine s_end ?_
 exact q_again (k5_, IntKind.wrap .i64 (x416_ + 1)) [0, 1, 2, 3, 4, 5, 6, 7, 8, 9, 10] H (Nat.lt_succ_of_le hko_5) (subF_spec ⟨rfl, rfl, rfl, rfl, rfl, trivial⟩) rfl (by decide)
 clear H
 have H := e465_
 clear e465_
 refine r_ord (l := [0, 1, 2, 3, 4, 5, 6, 7, 8, 9, 10, 11, 12, 13]) rfl (by kernel_rfl) (by kernel_rfl) ?_
 refine s_v rfl rfl rfl rfl (v_move rfl rfl) ?_
 refine s_v rfl rfl rfl rfl (v_move rfl rfl) ?_
 obtain ⟨n467_, H⟩ := ite_no H
 obtain ⟨n468_, H⟩ := ite_no H
 refine s_v rfl rfl rfl rfl (v_iaI rfl Try.underlying86 SZ3 rfl rfl n467_ n468_) ?_
 refine s_v rfl rfl rfl rfl (v_ldI 1 rfl Try.underlying3 rfl rfl rfl n467_ (lt_lh lh_xs314_ n468_)) ?_
 refine s_v rfl rfl rfl rfl (v_arith rfl rfl rfl rfl) ?_
 refine s_v rfl rfl rfl rfl (v_move rfl rfl) ?_
 rcases Bool.eq_false_or_eq_true (decide ((rd xs314_ x416_ : Int) > 1)) with h469_ | h469_
 replace H := ite_y (dec_t h469_) H
 refine s_splitv (d := 133) (t := decide ((rd xs314_ x416_ : Int) > 1)) rfl (fun _ => ?_) (fun h470_ => absurd (h470_.symm.trans h469_) (by decide))
 refine s_no rfl rfl rfl rfl ?_
 refine s_no rfl rfl rfl rfl ?_
 refine s_no rfl rfl rfl rfl ?_
 refine s_no rfl rfl rfl rfl ?_
 refine s_no rfl rfl rfl rfl ?_
 refine s_no rfl rfl rfl rfl ?_
 refine s_no rfl rfl rfl rfl ?_
 refine s_v rfl rfl rfl rfl (v_pick rfl rfl rfl rfl) ?_
 refine s_end ?_
 have hq_0 := Option.some.inj H
 obtain ⟨ee_0, hq_1⟩ := Prod.mk.inj hq_0
 subst ee_0
 subst hq_1
 exact q_seq (c_frame (subF_spec (by exact ⟨rfl, rfl, rfl, rfl, rfl, rfl, rfl, rfl, rfl, rfl, rfl, rfl, rfl, rfl, rfl, rfl, rfl, rfl, rfl, rfl, rfl, rfl, trivial⟩)) (c_take [0, 1, 2, 3, 4, 5, 6, 7, 8, 9, 10] rfl (by decide) (J_ () trivial)))
 replace H := ite_n (dec_f h469_) H
 refine s_splitv (d := 133) (t := decide ((rd xs314_ x416_ : Int) > 1)) rfl (fun h471_ => absurd (h471_.symm.trans h469_) (by decide)) (fun _ => ?_)
 refine s_vg rfl rfl rfl rfl (v_move rfl rfl) ?_
 refine s_vg rfl rfl rfl rfl (v_move rfl rfl) ?_
 refine s_vg rfl rfl rfl rfl (v_move rfl rfl) ?_
 refine s_vg rfl rfl rfl rfl (v_iaI rfl Try.underlying86 SZ3 rfl rfl n467_ n468_) ?_
 refine s_vg rfl rfl rfl rfl (v_ldI 1 rfl Try.underlying3 rfl rfl rfl n467_ (lt_lh lh_xs314_ n468_)) ?_
 refine s_vg rfl rfl rfl rfl (v_arith rfl rfl rfl rfl) ?_
 refine s_vg rfl rfl rfl rfl (v_eqnB rfl Try.underlying4 rfl rfl) ?_
 refine s_v rfl rfl rfl rfl (v_pick rfl rfl rfl rfl) ?_
 refine s_end ?_
 have hq_0 := Option.some.inj H
 obtain ⟨ee_0, hq_1⟩ := Prod.mk.inj hq_0
 subst ee_0
 subst hq_1
 exact q_seq (c_frame (subF_spec (by exact ⟨rfl, rfl, rfl, rfl, rfl, rfl, rfl, rfl, rfl, rfl, rfl, rfl, rfl, rfl, rfl, rfl, rfl, rfl, rfl, rfl, rfl, rfl, trivial⟩)) (c_take [0, 1, 2, 3, 4, 5, 6, 7, 8, 9, 10] rfl (by decide) (J_ () trivial)))
 replace H := ite_n (dec_f h436_) H
 refine c_cond rfl rfl (fun h472_ => absurd (h472_.symm.trans h436_) (by decide)) (fun _ => ?_)
 refine c_exit (i := 10) rfl rfl ?_
 refine q_then_exit ?_
 refine q_then_exit ?_
 refine q_block_here rfl ?_
 refine q_seq ?_
 refine c_seq rfl ?_
 refine r_ord (l := [0]) rfl (by kernel_rfl) (by kernel_rfl) ?_
 refine s_e rfl rfl (e_st 6 rfl rfl SZ4 rfl rfl rfl rfl (blt_lt rfl)) ?_
 refine s_end ?_
 refine q_seq ?_
 refine c_ret rfl ?_
 have e_ := Option.some.inj H
 subst e_
 exact q_retD (Ds := Ds2_) 8 rfl hnd_Ds2_ hge_Ds2_ [6] rfl (by decide) (cellsB.cons cellsB.nil) (.inl rfl) rfl (vs := [.bool true]) (.cell 0 rfl Try.underlying4 rfl rfl rfl .nil) (hX)
end Go.Eng
