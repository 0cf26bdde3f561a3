/-
Own text, put together by an own program (shake.py) out of this claim's texts: what its theorem needs of them.
-/
import Derived.Test.YtiihjijmmephlaaA5
namespace Go.Eng
open Go.Proofs Go.RowKit Go.Proofs.YtiihjijmmephlaaW.PrintWords Go.Proofs.Ytiihjijmmephlaa.GHist
set_option linter.unusedVariables false
set_option linter.unusedSimpArgs false
def turnC (l : List S43) (k : Nat) (q0 q1 : Bool) (q2 : Int) (A : Option Addr) (n c : Nat) : List Value := [.int .i64 0, .int .i64 (opAt l k).f0, .int .u64 (opAt l k).f1, .int .u64 (opAt l k).f2, .int .i64 (opAt l k).f3, .int .i64 (opAt l k).f4, .int .i64 (3 * (k : Int) + 1), .int .i64 (3 * (k : Int) + 2), .int .i64 (3 * (k : Int) + 3), .bool true, .bool q0, .bool q1, .int .u64 q2, .slice A n c]
theorem reps_turn {w : World} {l : List S43} {k : Nat} {inner : List Value} {A : Option Addr} {c : Nat} {m1 : List S56} {q0 q1 : Bool} {q2 : Int} {q3 : List Int} (hD : Dm (mAt l k) (opAt l k).f0 (opAt l k).f1 (opAt l k).f2 (opAt l k).f3 = (m1, q0, q1, q2, q3)) (hr : Reps (k48.K w) 14 (outT l k) inner) (hk : KC (Kd.int .u64) A c q3 w) : Reps (k48.K w) 14 (outT l (k + 1)) (inner ++ turnC l k q0 q1 q2 A q3.length c) := by
  have he : evT l k = ⟨0, opAt l k, 3 * (k : Int) + 1, 3 * (k : Int) + 2, 3 * (k : Int) + 3, true, ⟨q0, q1, q2, q3⟩⟩ := by unfold evT doO; rw [hD]
  rw [outT_succ]
  refine hr.snoc ?_ rfl
  rw [he]
  exact K48 (x := ⟨0, opAt l k, 3 * (k : Int) + 1, 3 * (k : Int) + 2, 3 * (k : Int) + 3, true, ⟨q0, q1, q2, q3⟩⟩) hk
theorem wi64 {x : Int} (h0 : 0 ≤ x) (h1 : x < 1000000) : IntKind.wrap .i64 x = x := by
  simp only [IntKind.wrap, IntKind.bits, IntKind.signed]
  simp
  omega
theorem add0x (g k : Nat) : (⟨g, 0, none⟩ : Addr).add k = ⟨g, k, none⟩ := by unfold Addr.add; split <;> simp_all
theorem reps_at {w : World} {l : List S43} {inner : List Value} {k : Nat} (hr : Reps (k48.K w) 14 (outT l l.length) inner) (hk : k < l.length) : inner[k * 14 + 12]? = some (.int .u64 (evT l k).f6.f2) := by
  have hx : (outT l l.length)[k]? = some (evT l k) := by simp [outT, hk]
  obtain ⟨A, c, e⟩ := k48_sh (hr.2 k _ hx)
  have h2 : ((inner.drop (k * 14)).take 14)[12]? = some (.int .u64 (evT l k).f6.f2) := by rw [e]; rfl
  rw [List.getElem?_take, if_pos (by omega), List.getElem?_drop] at h2
  exact h2
theorem cur_bump {l : List S43} {q : Nat} {cur : Array Value} {inner : List Value} {v : Value} (h : cur.toList.take (l.length * 14) = inner) (hg : inner[q * 14 + 12]? = some v) (hq : q < l.length) : cur[q * 14 + 10 + 2]? = some v := by
  rw [← h, List.getElem?_take, if_pos (by omega)] at hg
  rw [show q * 14 + 10 + 2 = q * 14 + 12 by omega]
  simpa using hg
theorem take_bump {l : List S43} {q : Nat} {cur : Array Value} {inner : List Value} {v : Value} (h : cur.toList.take (l.length * 14) = inner) (hq : q < l.length) (hs : q * 14 + 12 < cur.size) : (cur.setIfInBounds (q * 14 + 10 + 2) v).toList.take (l.length * 14) = inner.set (q * 14 + 12) v := by
  rw [← h, show q * 14 + 10 + 2 = q * 14 + 12 by omega, Array.toList_setIfInBounds, List.take_set]
theorem reps_bump {w : World} {l : List S43} {q : Nat} {inner : List Value} (hr : Reps (k48.K w) 14 (outT l l.length) inner) (hq : q < l.length) : Reps (k48.K w) 14 (bumpT l q) (inner.set (q * 14 + 12) (.int .u64 (IntKind.wrap .u64 ((evT l q).f6.f2 + 1)))) := by
  refine ⟨by rw [List.length_set, hr.1, bumpT_len, outT_len], fun j p hj => ?_⟩
  have hjl : j < l.length := by have := (List.getElem?_eq_some_iff.1 hj).1; rwa [bumpT_len] at this
  have hp : p = if j = q then bump (evT l q) else evT l j := by
    have := bumpT_at (l := l) (q := q) hjl
    unfold rd_T48 at this
    rw [Int.toNat_natCast, List.getD_eq_getElem?_getD, hj] at this
    exact this
  have hx : (outT l l.length)[j]? = some (evT l j) := by simp [outT, hjl]
  have hK := hr.2 j _ hx
  have hcell : ∀ a b : List Value, (∀ i, i < 14 → a[j * 14 + i]? = b[j * 14 + i]?) → (a.drop (j * 14)).take 14 = (b.drop (j * 14)).take 14 := by
    intro a b h
    apply List.ext_getElem?
    intro i
    rw [List.getElem?_take, List.getElem?_take]
    split
    · rw [List.getElem?_drop, List.getElem?_drop]; exact h i (by assumption)
    · rfl
  by_cases h : j = q
  · subst h
    rw [hp, if_pos rfl]
    obtain ⟨A, c, e⟩ := k48_sh hK
    have hkr : KC (Kd.int .u64) A c (evT l j).f6.f3 w := k48_row (e ▸ hK)
    have e2 : ((inner.set (j * 14 + 12) (.int .u64 (IntKind.wrap .u64 ((evT l j).f6.f2 + 1)))).drop (j * 14)).take 14 = cellsE (bump (evT l j)) A c := by
      rw [List.drop_set, if_neg (by omega), Nat.add_sub_cancel_left, List.take_set, e]
      rfl
    rw [e2]
    exact K48 (x := bump (evT l j)) hkr
  · rw [hp, if_neg h, hcell _ inner (fun i hi => by rw [List.getElem?_set_ne (by omega)])]
    exact hK
section
variable {P : Program} {n : Sz} {w0 : World} {I : Ix} {F : FL} {L : HL} {Q : Exit → Act → World → Prop}
theorem lend_f {w : World} (ht : Tri w0 I w L) {i : Nat} {φ : World → Prop} (h : L[i]? = some (.f φ)) : Stab [] w φ := (ht.facts φ (List.mem_of_getElem? h)).mono (fun x hx => by cases hx)
theorem lend_b {w : World} (ht : Tri w0 I w L) {i b : Nat} {o : Obj} (h : L[i]? = some (.b b o)) : Stab [] w (fun w => w.heap[b]? = some o) := fun w' ha => by
  have h1 := ht.at_ _ _ (List.mem_of_getElem? h)
  show w'.heap[b]? = some o
  rw [ha.frame b (Array.getElem?_eq_some_iff.1 h1).1 (by simp)]
  exact h1
theorem lend_2 {w : World} {φ ψ χ : World → Prop} (h1 : Stab [] w φ) (h2 : Stab [] w ψ) (h : ∀ w, φ w → ψ w → χ w) : Stab [] w χ := fun w' ha => h w' (h1 w' ha) (h2 w' ha)
theorem lend_nil {w : World} : ∀ φ ∈ ([] : List (World → Prop)), Stab [] w φ := fun _ h => by cases h
theorem lend_cons {w : World} {φ : World → Prop} {fs : List (World → Prop)} (h : Stab [] w φ) (hr : ∀ ψ ∈ fs, Stab [] w ψ) : ∀ ψ ∈ φ :: fs, Stab [] w ψ := fun ψ hψ => by
  rcases List.mem_cons.1 hψ with rfl | hψ
  · exact h
  · exact hr ψ hψ
theorem tri_lend {w : World} : ∀ (fs : List (World → Prop)), (∀ φ ∈ fs, Stab [] w φ) → Tri w ⟨[], []⟩ w (fs.map Ent.f)
  | [], _ => Tri.nil w
  | φ :: r, h => (tri_lend r (fun ψ hψ => h ψ (List.mem_cons_of_mem _ hψ))).know (by rw [ids_facts]; exact h φ List.mem_cons_self)
theorem c_lend {c : Code} (fs : List (World → Prop)) (K : FL → Prop) (hfs : ∀ w, Tri w0 I w L → ∀ φ ∈ fs, Stab [] w φ) (k : ∀ w1, CW P (Code.wp P) n w1 ⟨[], []⟩ c (fun e a w' => e = .normal ∧ ∃ F', K F' ∧ Fr n a F' ∧ Agree [] w1 w') F (fs.map Ent.f)) (kk : ∀ F', K F' → QW P (Code.wp P) n w0 I .normal Q F' L) : CW P (Code.wp P) n w0 I c Q F L := by
  intro fl np a w hf ht
  have hnp : NP (fun e a w' => e = Exit.normal ∧ ∃ F', K F' ∧ Fr n a F' ∧ Agree [] w w') := ⟨fun ch a w' h => (by cases h.1), fun a w' h => (by cases h.1)⟩
  have h1 := k w fl hnp a w hf (tri_lend fs (hfs w ht))
  refine wp_mono h1 (fun e a' w' h => ?_)
  obtain ⟨rfl, F', hK, hf', hag⟩ := h
  exact kk F' hK fl np a' w' hf' (ht.of_below hag.below)
end
theorem outT_keys {l : List S43} (hl : l.length ≤ 40) : ∀ x ∈ outT l l.length, x.f6.f3.length ≤ 40 := by
  intro x hx
  unfold outT at hx
  obtain ⟨k, hk, rfl⟩ := List.mem_map.1 hx
  have h1 := mAt_facts l k
  have h2 := (doO_facts h1.1 (opAt l k)).2.2
  have := List.mem_range.1 hk
  exact Nat.le_trans h2 (by omega)
theorem bumpT_keys {l : List S43} {q : Nat} (hl : l.length ≤ 40) (hq : q < l.length) : ∀ x ∈ bumpT l q, x.f6.f3.length ≤ 40 := by
  intro x hx
  rcases List.mem_or_eq_of_mem_set hx with h | rfl
  · exact outT_keys hl x h
  · exact outT_keys hl (evT l q) (List.mem_map.2 ⟨q, List.mem_range.2 hq, rfl⟩)
set_option maxRecDepth 100000 in
set_option maxHeartbeats 4000000 in
theorem turns_law (A : Option Addr) (c : Nat) (l : List S43) (a_ : Int) (w0 : World) (H : List Nat) : Con Try.prog 8 #[.slice A l.length c, .int .i64 a_] w0 H [.f (KC k43 A c l)] (fun X => X (.bool true) []) := by
 refine con_enter (c := bodyOf Try.f8) Try.func8 rfl (m := 100) rfl rfl rfl ?_
 intro X hX _
 refine c_seq rfl ?_
 refine r_ord (l := [0]) rfl (by kernel_rfl) (by kernel_rfl) ?_
 refine s_v rfl rfl rfl rfl (v_assign rfl rfl) ?_
 refine s_end ?_
 refine q_seq ?_
 refine c_seq rfl ?_
 refine c_seq rfl ?_
 refine r_ord (l := [0, 1, 2]) rfl (by kernel_rfl) (by kernel_rfl) ?_
 refine s_v rfl rfl rfl rfl (v_move rfl rfl) ?_
 refine s_v rfl rfl rfl rfl (v_len rfl rfl rfl Try.underlying50 rfl rfl) ?_
 refine s_v rfl rfl rfl rfl (v_arith rfl rfl rfl rfl) ?_
 refine s_end ?_
 refine q_seq ?_
 refine c_cond (t := decide (((l.length : Nat) : Int) > 30)) rfl rfl (fun h1_ => ?_) (fun h1_ => ?_)
 have h1_d := of_decide_eq_true h1_
 refine c_seq rfl ?_
 refine r_ord (l := [0, 1]) rfl (by kernel_rfl) (by kernel_rfl) ?_
 refine s_e rfl rfl (e_callK (fun z : Unit => .bool true) (fun z => []) #[] rfl rfl rfl rfl rfl Try.func10 rfl (by decide) rfl rfl (fun w ht => alive_calls w)) ?_
 intro z2_
 refine s_v rfl rfl rfl rfl (v_assign rfl rfl) ?_
 refine s_end ?_
 refine q_seq ?_
 refine c_ret rfl ?_
 refine q_then_ret ?_
 refine q_take [] rfl (by decide) ?_
 exact q_post rfl (.cons rfl (.nil)) hX
 have h1_d := of_decide_eq_false h1_
 have hl : l.length ≤ 30 := by omega
 refine c_skip rfl ?_
 refine q_seq ?_
 refine c_seq rfl ?_
 refine r_ord (l := [0]) rfl (by kernel_rfl) (by kernel_rfl) ?_
 refine s_e rfl rfl (e_alloc rfl rfl rfl ZR35) ?_
 intro b3_
 refine s_end ?_
 refine q_seq ?_
 refine c_seq rfl ?_
 refine r_ord (l := [0]) rfl (by kernel_rfl) (by kernel_rfl) ?_
 refine s_v rfl rfl rfl rfl (v_assign rfl rfl) ?_
 refine s_end ?_
 refine q_seq ?_
 refine c_seq rfl ?_
 refine c_seq rfl ?_
 refine r_ord (l := [0, 1, 2]) rfl (by kernel_rfl) (by kernel_rfl) ?_
 refine s_v rfl rfl rfl rfl (v_move rfl rfl) ?_
 refine s_v rfl rfl rfl rfl (v_len rfl rfl rfl Try.underlying50 rfl rfl) ?_
 refine s_v rfl rfl rfl rfl (v_move rfl rfl) ?_
 refine s_end ?_
 refine q_seq ?_
 refine c_block rfl ?_
 refine c_knowT (KC_nil k56) ?_
 refine c_loop (σ := (Nat × Option Addr × Nat × Option (Nat × Nat × Nat × Array Value × List Value))) (fun s : (Nat × Option Addr × Nat × Option (Nat × Nat × Nat × Array Value × List Value)) => match s with | (k, B, d, none) => k ≤ l.length ∧ k = 0 | (k, B, d, some (n, g, cap, cur, inner)) => k ≤ l.length ∧ n = k ∧ 0 < n ∧ n ≤ cap ∧ cap ≤ maxLen ∧ cur.size = cap * 14 ∧ cur.toList.take (n * 14) = inner) (fun s => l.length - s.1) (fun s : (Nat × Option Addr × Nat × Option (Nat × Nat × Nat × Array Value × List Value)) => match s with | (k, B, d, none) => [(0, .slice A l.length c), (1, .int .i64 a_), (5, .pointer (some ⟨b3_, 0, none⟩)), (15, .slice A l.length c), (16, .int .i64 (l.length : Nat)), (6, .slice none 0 0), (17, .int .i64 ((k : Nat) : Int))] | (k, B, d, some (n, g, cap, cur, inner)) => [(0, .slice A l.length c), (1, .int .i64 a_), (5, .pointer (some ⟨b3_, 0, none⟩)), (15, .slice A l.length c), (16, .int .i64 (l.length : Nat)), (6, .slice (some ⟨g, 0, none⟩) n cap), (17, .int .i64 ((k : Nat) : Int))]) (fun s : (Nat × Option Addr × Nat × Option (Nat × Nat × Nat × Array Value × List Value)) => match s with | (k, B, d, none) => [.b b3_ (.cells #[.slice B ((mAt l k).length) d] 35 (0, 0)), .f (KC k56 B d (mAt l k)), .f (KC k43 A c l)] | (k, B, d, some (n, g, cap, cur, inner)) => [.b b3_ (.cells #[.slice B ((mAt l k).length) d] 35 (0, 0)), .f (KC k56 B d (mAt l k)), .f (KC k43 A c l), .b g (.cells cur 53 (0, 0)), .f (fun w => Reps (k48.K w) 14 (outT l k) inner)]) (0, none, 0, none) [1, 0, 2] rfl ⟨Nat.zero_le _, rfl⟩ (subF_spec ⟨rfl, rfl, rfl, rfl, rfl, rfl, rfl, trivial⟩) rfl (by decide) ?_
 rintro ⟨k, B, d, _ | ⟨n, g, cap, cur, inner⟩⟩ hs
 have hs : k ≤ l.length ∧ k = 0 := hs
 have hi_ := hs.1
 refine c_seq rfl ?_
 refine r_ord (l := [0]) rfl (by kernel_rfl) (by kernel_rfl) ?_
 refine s_v rfl rfl rfl rfl (v_arith rfl rfl rfl rfl) ?_
 refine s_end ?_
 refine q_seq ?_
 refine c_seq rfl ?_
 refine c_cond (t := decide ((((k : Nat) : Int) : Int) < (l.length : Nat))) rfl rfl (fun h4_ => ?_) (fun h4_ => ?_)
 have h4_d := of_decide_eq_true h4_
 have hkl : k < l.length := by omega
 have hsm := (mAt_facts l k).1
 have hlm : (mAt l k).length ≤ 1000 := by have := (mAt_facts l k).2; omega
 refine c_skip rfl ?_
 refine q_seq ?_
 refine c_seq rfl ?_
 refine c_block rfl ?_
 refine c_seq rfl ?_
 refine r_ord (l := [0, 1, 2, 3, 4, 5]) rfl (by kernel_rfl) (by kernel_rfl) ?_
 refine s_v rfl rfl rfl rfl (v_move rfl rfl) ?_
 refine s_v rfl rfl rfl rfl (v_iaK (i := 2) rfl Try.underlying50 SZ43 rfl rfl rfl rfl (by omega) (by omega)) ?_
 refine s_v rfl rfl rfl rfl (v_ldKA z43 [.int .i64 ((rd_T43 l ((k : Nat) : Int)).f0), .int .u64 ((rd_T43 l ((k : Nat) : Int)).f1), .int .u64 ((rd_T43 l ((k : Nat) : Int)).f2), .int .i64 ((rd_T43 l ((k : Nat) : Int)).f3), .int .i64 ((rd_T43 l ((k : Nat) : Int)).f4)] 2 rfl Try.underlying43 rfl SZ43 rfl rfl rfl rfl (by omega) (by omega) (fun w K h => k43_open h)) ?_
 refine s_e rfl rfl (e_alloc rfl rfl rfl ZR43) ?_
 intro b5_
 refine s_v rfl rfl rfl rfl (v_assign rfl rfl) ?_
 refine s_e rfl rfl (e_stA 0 rfl rfl SZ43 rfl rfl rfl rfl rfl rfl) ?_
 refine s_end ?_
 refine q_seq ?_
 refine c_seq rfl ?_
 refine r_ord (l := [0, 1, 2, 3, 4, 5, 6, 7, 8, 9]) rfl (by kernel_rfl) (by kernel_rfl) ?_
 refine s_v rfl rfl rfl rfl (v_ldA [.slice B ((mAt l k).length) d] 1 rfl Try.underlying35 rfl SZ35 rfl rfl rfl rfl) ?_
 refine s_v rfl rfl rfl rfl (v_ldA [.int .i64 ((rd_T43 l ((k : Nat) : Int)).f0), .int .u64 ((rd_T43 l ((k : Nat) : Int)).f1), .int .u64 ((rd_T43 l ((k : Nat) : Int)).f2), .int .i64 ((rd_T43 l ((k : Nat) : Int)).f3), .int .i64 ((rd_T43 l ((k : Nat) : Int)).f4)] 0 rfl Try.underlying43 rfl SZ43 rfl rfl rfl rfl) ?_
 obtain ⟨m1, q0, q1, q2, q3, hD⟩ : ∃ m1 q0 q1 q2 q3, Dm (mAt l k) (opAt l k).f0 (opAt l k).f1 (opAt l k).f2 (opAt l k).f3 = (m1, q0, q1, q2, q3) := ⟨_, _, _, _, _, rfl⟩
 refine s_e rfl rfl (e_callF [2] #[.agg #[.slice B ((mAt l k).length) d], .agg #[.int .i64 ((rd_T43 l ((k : Nat) : Int)).f0), .int .u64 ((rd_T43 l ((k : Nat) : Int)).f1), .int .u64 ((rd_T43 l ((k : Nat) : Int)).f2), .int .i64 ((rd_T43 l ((k : Nat) : Int)).f3), .int .i64 ((rd_T43 l ((k : Nat) : Int)).f4)]] rfl rfl rfl rfl rfl Try.func23 rfl (by decide) rfl rfl rfl rfl (fun w ht => do_conr B d (mAt l k) ((rd_T43 l ((k : Nat) : Int)).f0) ((rd_T43 l ((k : Nat) : Int)).f1) ((rd_T43 l ((k : Nat) : Int)).f2) ((rd_T43 l ((k : Nat) : Int)).f3) ((rd_T43 l ((k : Nat) : Int)).f4) hsm hlm m1 q0 q1 q2 q3 hD w _)) ?_
 intro A6_ c7_ A8_ c9_
 refine s_v rfl rfl rfl rfl (v_move rfl rfl) ?_
 refine s_v rfl rfl rfl rfl (v_ext rfl rfl rfl) ?_
 refine s_v rfl rfl rfl rfl (v_ext rfl rfl rfl) ?_
 refine s_e rfl rfl (e_alloc rfl rfl rfl ZR35) ?_
 intro b10_
 refine s_e rfl rfl (e_alloc rfl rfl rfl ZR46) ?_
 intro b11_
 refine s_e rfl rfl (e_stA 1 rfl rfl SZ35 rfl rfl rfl rfl rfl rfl) ?_
 refine s_e rfl rfl (e_stA 0 rfl rfl SZ46 rfl rfl rfl rfl rfl rfl) ?_
 refine s_end ?_
 refine q_seq ?_
 refine c_seq rfl ?_
 refine r_ord (l := [0, 1]) rfl (by kernel_rfl) (by kernel_rfl) ?_
 refine s_v rfl rfl rfl rfl (v_ldA [.slice A6_ m1.length c7_] 1 rfl Try.underlying35 rfl SZ35 rfl rfl rfl rfl) ?_
 refine s_e rfl rfl (e_stA 5 rfl rfl SZ35 rfl rfl rfl rfl rfl rfl) ?_
 refine s_end ?_
 refine q_seq ?_
 refine r_ord (l := [0, 1, 2, 3, 4, 5, 6, 7, 8, 9, 10, 11, 12, 13, 14, 15]) rfl (by kernel_rfl) (by kernel_rfl) ?_
 refine s_v rfl rfl rfl rfl (v_move rfl rfl) ?_
 refine s_v rfl rfl rfl rfl (v_ldA [.int .i64 ((rd_T43 l ((k : Nat) : Int)).f0), .int .u64 ((rd_T43 l ((k : Nat) : Int)).f1), .int .u64 ((rd_T43 l ((k : Nat) : Int)).f2), .int .i64 ((rd_T43 l ((k : Nat) : Int)).f3), .int .i64 ((rd_T43 l ((k : Nat) : Int)).f4)] 4 rfl Try.underlying43 rfl SZ43 rfl rfl rfl rfl) ?_
 refine s_v rfl rfl rfl rfl (v_move rfl rfl) ?_
 refine s_v rfl rfl rfl rfl (OpV.cast (v := .int .i64 (3 * (k : Int))) (v_arith rfl rfl rfl rfl) (by rw [wi64 (by omega) (by omega)])) ?_
 refine s_v rfl rfl rfl rfl (OpV.cast (v := .int .i64 (3 * (k : Int) + 1)) (v_arith rfl rfl rfl rfl) (by rw [wi64 (by omega) (by omega)])) ?_
 refine s_v rfl rfl rfl rfl (v_move rfl rfl) ?_
 refine s_v rfl rfl rfl rfl (OpV.cast (v := .int .i64 (3 * (k : Int))) (v_arith rfl rfl rfl rfl) (by rw [wi64 (by omega) (by omega)])) ?_
 refine s_v rfl rfl rfl rfl (OpV.cast (v := .int .i64 (3 * (k : Int) + 2)) (v_arith rfl rfl rfl rfl) (by rw [wi64 (by omega) (by omega)])) ?_
 refine s_v rfl rfl rfl rfl (v_move rfl rfl) ?_
 refine s_v rfl rfl rfl rfl (OpV.cast (v := .int .i64 (3 * (k : Int))) (v_arith rfl rfl rfl rfl) (by rw [wi64 (by omega) (by omega)])) ?_
 refine s_v rfl rfl rfl rfl (OpV.cast (v := .int .i64 (3 * (k : Int) + 3)) (v_arith rfl rfl rfl rfl) (by rw [wi64 (by omega) (by omega)])) ?_
 refine s_v rfl rfl rfl rfl (v_ldA [.bool q0, .bool q1, .int .u64 q2, .slice A8_ q3.length c9_] 0 rfl Try.underlying46 rfl SZ46 rfl rfl rfl rfl) ?_
 refine s_v rfl rfl rfl rfl (v_build (places := #[(0, 1), (1, 5), (6, 1), (7, 1), (8, 1), (9, 1), (10, 4)]) #[.int .i64 0, .int .i64 ((rd_T43 l ((k : Nat) : Int)).f0), .int .u64 ((rd_T43 l ((k : Nat) : Int)).f1), .int .u64 ((rd_T43 l ((k : Nat) : Int)).f2), .int .i64 ((rd_T43 l ((k : Nat) : Int)).f3), .int .i64 ((rd_T43 l ((k : Nat) : Int)).f4), .int .i64 (3 * (k : Int) + 1), .int .i64 (3 * (k : Int) + 2), .int .i64 (3 * (k : Int) + 3), .bool true, .bool q0, .bool q1, .int .u64 q2, .slice A8_ q3.length c9_] rfl ZR53 Try.underlying53 (by kernel_rfl) rfl (by kernel_rfl)) ?_
 refine s_e rfl rfl (e_bslice #[.int .i64 0, .int .i64 ((rd_T43 l ((k : Nat) : Int)).f0), .int .u64 ((rd_T43 l ((k : Nat) : Int)).f1), .int .u64 ((rd_T43 l ((k : Nat) : Int)).f2), .int .i64 ((rd_T43 l ((k : Nat) : Int)).f3), .int .i64 ((rd_T43 l ((k : Nat) : Int)).f4), .int .i64 (3 * (k : Int) + 1), .int .i64 (3 * (k : Int) + 2), .int .i64 (3 * (k : Int) + 3), .bool true, .bool q0, .bool q1, .int .u64 q2, .slice A8_ q3.length c9_] (.agg #[.int .i64 0, .int .i64 0, .int .u64 0, .int .u64 0, .int .i64 0, .int .i64 0, .int .i64 0, .int .i64 0, .int .i64 0, .bool false, .bool false, .bool false, .int .u64 0, .slice none 0 0]) rfl rfl rfl Try.underlying27 SZ53 ZR53 (by decide) rfl (by kernel_rfl)) ?_
 intro b12_
 refine s_e rfl rfl (e_app_nil (z := (.agg #[.int .i64 0, .int .i64 0, .int .u64 0, .int .u64 0, .int .i64 0, .int .i64 0, .int .i64 0, .int .i64 0, .int .i64 0, .bool false, .bool false, .bool false, .int .u64 0, .slice none 0 0])) (m := 14) (bytes := 120) (k := 1) (news := [.int .i64 0, .int .i64 ((rd_T43 l ((k : Nat) : Int)).f0), .int .u64 ((rd_T43 l ((k : Nat) : Int)).f1), .int .u64 ((rd_T43 l ((k : Nat) : Int)).f2), .int .i64 ((rd_T43 l ((k : Nat) : Int)).f3), .int .i64 ((rd_T43 l ((k : Nat) : Int)).f4), .int .i64 (3 * (k : Int) + 1), .int .i64 (3 * (k : Int) + 2), .int .i64 (3 * (k : Int) + 3), .bool true, .bool q0, .bool q1, .int .u64 q2, .slice A8_ q3.length c9_]) (i := 0) rfl rfl rfl rfl rfl rfl Try.underlying27 (by kernel_rfl) rfl (by decide) rfl rfl rfl rfl rfl (by simp [Value.oneCell']) (by decide) (by decide) (by decide)) ?_
 intro g13_ cap14_ cur15_ h16_ h17_ h18_ h19_
 refine s_v rfl rfl rfl rfl (v_assign rfl rfl) ?_
 refine s_end ?_
 refine q_block ?_
 refine q_seq ?_
 refine r_ord (l := [0, 1]) rfl (by kernel_rfl) (by kernel_rfl) ?_
 refine s_v rfl rfl rfl rfl (OpV.cast (v := .int .i64 ((k + 1 : Nat) : Int)) (v_arith rfl rfl rfl rfl) (addN (a := k) (b := 1) (by first | omega | (simp only [List.length_set, swr_len, swp_len]; omega)))) ?_
 refine s_v rfl rfl rfl rfl (v_move rfl rfl) ?_
 refine s_end ?_
 refine q_weak 5 rfl (fun w h => reps_turn (k := k) hD (inner := []) (by rw [hs.2]; exact Reps.none _ _) h) ?_
 have he2 : mAt l (k + 1) = m1 := by rw [mAt_succ hkl]; unfold doO; rw [show Dm _ _ _ _ _ = _ from hD]
 exact q_again (k + 1, A6_, c7_, some (1, g13_, cap14_, cur15_, ([] ++ turnC l k q0 q1 q2 A8_ q3.length c9_))) [8, 5, 10, 1, 0] ⟨by omega, by omega, by omega, h16_, h17_, h18_, h19_⟩ (by show l.length - (k + 1) < l.length - k; omega) (by dsimp only; exact subF_spec ⟨rfl, rfl, rfl, rfl, rfl, rfl, rfl, trivial⟩) (by dsimp only; rw [he2]; rfl) (by decide)
 have h4_d := of_decide_eq_false h4_
 have hlm : (mAt l l.length).length ≤ 1000 := by have := (mAt_facts l l.length).2; omega
 obtain rfl : l = [] := List.eq_nil_of_length_eq_zero (by omega)
 obtain rfl := hs.2
 refine c_exit (i := 0) rfl rfl ?_
 refine q_then_exit ?_
 refine q_then_exit ?_
 refine q_block_here rfl ?_
 refine q_seq ?_
 refine c_seq rfl ?_
 refine c_seq rfl ?_
 refine c_knowT (KC_nil k48) ?_
 refine r_any [.f (KC k48 none 0 ([] : List S48)), .b b3_ (.cells #[.slice B ((mAt ([] : List S43) 0).length) d] 35 (0, 0)), .f (KC k56 B d (mAt ([] : List S43) 0)), .f (KC k43 A c ([] : List S43))] (by kernel_rfl) rfl (by kernel_rfl) (mem_pick (idx := [0, 1, 2, 3]) rfl) ?_
 refine a_v 0 rfl (by kernel_rfl) (by kernel_rfl) (by kernel_rfl) rfl rfl rfl (v_move rfl rfl) ?_
 refine a_1 (i := 1) (by kernel_rfl) ?_
 refine i_e rfl rfl (e_callF [0] #[.slice none (([] : List S48).length) 0] rfl rfl rfl rfl rfl Try.func19 rfl (by decide) rfl rfl rfl rfl (fun w ht => Con.of (C' := fun X => X (.bool true) []) (legal_con none 0 ([] : List S48) (by decide) (by decide +kernel) (by decide) w _) (fun X hX => by have h_ : legalM ([] : List S48) = true := (by decide); rw [h_]; exact hX))) ?_
 refine ⟨(mem_pick (idx := [0, 1, 2, 3]) rfl), ?_⟩
 refine a_v 2 rfl (by kernel_rfl) (by kernel_rfl) (by kernel_rfl) rfl rfl rfl (v_not rfl rfl) ?_
 refine a_v 3 rfl (by kernel_rfl) (by kernel_rfl) (by kernel_rfl) rfl rfl rfl (v_move rfl rfl) ?_
 refine a_v 4 rfl (by kernel_rfl) (by kernel_rfl) (by kernel_rfl) rfl rfl rfl (v_move rfl rfl) ?_
 refine a_1 (i := 5) (by kernel_rfl) ?_
 refine i_e rfl rfl (e_callF [0] #[.slice none (([] : List S48).length) 0] rfl rfl rfl rfl rfl Try.func21 rfl (by decide) rfl rfl rfl rfl (fun w ht => Con.of (C' := fun X => X (.bool true) []) (ranges_con none 0 ([] : List S48) (by decide) (by decide +kernel) (by decide) w _) (fun X hX => by have h_ : rangesM ([] : List S48) = true := (by decide +kernel); rw [h_]; exact hX))) ?_
 refine ⟨(mem_pick (idx := [0, 1, 2, 3]) rfl), ?_⟩
 refine a_v 6 rfl (by kernel_rfl) (by kernel_rfl) (by kernel_rfl) rfl rfl rfl (v_not rfl rfl) ?_
 refine a_v 7 rfl (by kernel_rfl) (by kernel_rfl) (by kernel_rfl) rfl rfl rfl (v_pick rfl rfl rfl rfl) ?_
 refine a_v 8 rfl (by kernel_rfl) (by kernel_rfl) (by kernel_rfl) rfl rfl rfl (v_move rfl rfl) ?_
 refine a_v 9 rfl (by kernel_rfl) (by kernel_rfl) (by kernel_rfl) rfl rfl rfl (v_move rfl rfl) ?_
 refine a_v 10 rfl (by kernel_rfl) (by kernel_rfl) (by kernel_rfl) rfl rfl rfl (v_move rfl rfl) ?_
 refine a_v 11 rfl (by kernel_rfl) (by kernel_rfl) (by kernel_rfl) rfl rfl rfl (v_len rfl rfl rfl Try.underlying50 rfl rfl) ?_
 refine a_v 12 rfl (by kernel_rfl) (by kernel_rfl) (by kernel_rfl) rfl rfl rfl (OpV.cast (v := .int .i64 (3 * ((([] : List S43).length : Nat) : Int))) (v_arith rfl rfl rfl rfl) (by rw [wi64 (by omega) (by omega)])) ?_
 refine a_v 16 rfl (by kernel_rfl) (by kernel_rfl) (by kernel_rfl) rfl rfl rfl (v_ldA [.slice B ((mAt ([] : List S43) 0).length) d] 1 rfl Try.underlying35 rfl SZ35 rfl rfl rfl rfl) ?_
 refine a_1 (i := 13) (by kernel_rfl) ?_
 refine i_e rfl rfl (e_callF [0] #[.slice none (([] : List S48).length) 0, .int .i64 (3 * ((([] : List S43).length : Nat) : Int))] rfl rfl rfl rfl rfl Try.func16 rfl (by decide) rfl rfl rfl rfl (fun w ht => Con.of (C' := fun X => ∀ A1 c1, X (.agg #[.slice A1 ((mAt ([] : List S43) 0).length) c1]) [.f (KC k56 A1 c1 (mAt ([] : List S43) 0))]) (hmap_con none 0 ([] : List S48) (3 * ((([] : List S43).length : Nat) : Int)) (by decide) (by decide +kernel) w _) (fun X hX A1 c1 => by rw [show (mapF ([] : List S48) (3 * ((([] : List S43).length : Nat) : Int)) (ordL ([] : List S48))) = (mAt ([] : List S43) 0) from (by decide +kernel)]; exact hX A1 c1))) ?_
 intro A20_ c21_
 refine ⟨(mem_pick (idx := [1, 2, 3, 4]) rfl), ?_⟩
 refine a_1 (i := 14) (by kernel_rfl) ?_
 refine i_e rfl rfl (e_callK (fun z : Option Addr × Nat => .slice z.1 ((mAt ([] : List S43) 0).length) z.2) (fun z => [KC k56 z.1 z.2 (mAt ([] : List S43) 0)]) #[.agg #[.slice A20_ ((mAt ([] : List S43) 0).length) c21_]] rfl rfl rfl rfl rfl Try.func17 rfl (by decide) rfl rfl (fun w ht => seq_Map_Pairs.con _ _ (mAt ([] : List S43) 0) _ (pairs_f (mAt ([] : List S43) 0) hlm) w (Tri.fact ht 0 rfl))) ?_
 intro z22_
 refine ⟨(mem_pick (idx := [2, 3, 4, 5]) rfl), ?_⟩
 refine a_1 (i := 15) (by kernel_rfl) ?_
 refine i_e rfl rfl (e_callK (fun z : Option Addr × Nat => .slice z.1 (((mAt ([] : List S43) 0).map old).length) z.2) (fun z => [KC k61 z.1 z.2 ((mAt ([] : List S43) 0).map old)]) #[.slice z22_.1 ((mAt ([] : List S43) 0).length) z22_.2] rfl rfl rfl rfl rfl Try.func15 rfl (by decide) rfl rfl (fun w ht => stepstonelaw07_Olds.con 5000 _ _ _ _ (olds_f (mAt ([] : List S43) 0) hlm 5000 (by omega)) w (Tri.fact ht 0 rfl))) ?_
 intro z23_
 refine ⟨(mem_pick (idx := [3, 4, 5, 6]) rfl), ?_⟩
 refine a_1 (i := 17) (by kernel_rfl) ?_
 refine i_e rfl rfl (e_callK (fun z : Option Addr × Nat => .slice z.1 ((mAt ([] : List S43) 0).length) z.2) (fun z => [KC k56 z.1 z.2 (mAt ([] : List S43) 0)]) #[.agg #[.slice B ((mAt ([] : List S43) 0).length) d]] rfl rfl rfl rfl rfl Try.func17 rfl (by decide) rfl rfl (fun w ht => seq_Map_Pairs.con _ _ (mAt ([] : List S43) 0) _ (pairs_f (mAt ([] : List S43) 0) hlm) w (Tri.fact ht 5 rfl))) ?_
 intro z24_
 refine ⟨(mem_pick (idx := [4, 5, 6, 7]) rfl), ?_⟩
 refine a_1 (i := 18) (by kernel_rfl) ?_
 refine i_e rfl rfl (e_callK (fun z : Option Addr × Nat => .slice z.1 (((mAt ([] : List S43) 0).map old).length) z.2) (fun z => [KC k61 z.1 z.2 ((mAt ([] : List S43) 0).map old)]) #[.slice z24_.1 ((mAt ([] : List S43) 0).length) z24_.2] rfl rfl rfl rfl rfl Try.func15 rfl (by decide) rfl rfl (fun w ht => stepstonelaw07_Olds.con 5000 _ _ _ _ (olds_f (mAt ([] : List S43) 0) hlm 5000 (by omega)) w (Tri.fact ht 0 rfl))) ?_
 intro z25_
 refine ⟨(mem_pick (idx := [5, 6, 7, 8]) rfl), ?_⟩
 refine a_1 (i := 19) (by kernel_rfl) ?_
 refine i_e rfl rfl (e_callK (fun z : Unit => .bool true) (fun z => []) #[.slice z23_.1 (((mAt ([] : List S43) 0).map old).length) z23_.2, .slice z25_.1 (((mAt ([] : List S43) 0).map old).length) z25_.2] rfl rfl rfl rfl rfl Try.func14 rfl (by decide) rfl rfl (fun w ht => stepstoneref07_Equal.con 5000 _ _ _ _ _ _ _ ((equal_f ((mAt ([] : List S43) 0).map old) ((mAt ([] : List S43) 0).map old) (by rw [List.length_map]; exact hlm) 5000 (by omega)).trans (by simp)) w (Tri.fact ht 2 rfl) (Tri.fact ht 0 rfl))) ?_
 intro z26_
 refine ⟨(mem_pick (idx := [5, 6, 7, 8]) rfl), ?_⟩
 refine a_v 20 rfl (by kernel_rfl) (by kernel_rfl) (by kernel_rfl) rfl rfl rfl (v_not rfl rfl) ?_
 refine a_v 21 rfl (by kernel_rfl) (by kernel_rfl) (by kernel_rfl) rfl rfl rfl (v_pick rfl rfl rfl rfl) ?_
 refine a_end (by kernel_rfl) ?_
 refine q_seq ?_
 refine c_cond0 rfl rfl ?_
 refine c_skip rfl ?_
 refine q_seq ?_
 refine c_seq rfl ?_
 refine c_seq rfl ?_
 refine r_ord (l := [0, 1, 2, 3, 4, 5, 6, 7, 8, 9, 10, 11, 12, 13, 14, 15]) rfl (by kernel_rfl) (by kernel_rfl) ?_
 refine s_v rfl rfl rfl rfl (v_move rfl rfl) ?_
 refine s_v rfl rfl rfl rfl (v_arith rfl rfl rfl rfl) ?_
 refine s_v rfl rfl rfl rfl (v_move rfl rfl) ?_
 refine s_splitv (d := 69) (t := decide ((a_ : Int) < 0)) rfl (fun h27_ => ?_) (fun h27_ => ?_)
 have h27_d := of_decide_eq_true h27_
 refine s_no rfl rfl rfl rfl ?_
 refine s_no rfl rfl rfl rfl ?_
 refine s_no rfl rfl rfl rfl ?_
 refine s_no rfl rfl rfl rfl ?_
 refine s_v rfl rfl rfl rfl (v_pick rfl rfl rfl rfl) ?_
 refine s_v rfl rfl rfl rfl (v_move rfl rfl) ?_
 refine s_no rfl rfl rfl rfl ?_
 refine s_no rfl rfl rfl rfl ?_
 refine s_no rfl rfl rfl rfl ?_
 refine s_no rfl rfl rfl rfl ?_
 refine s_no rfl rfl rfl rfl ?_
 refine s_no rfl rfl rfl rfl ?_
 refine s_v rfl rfl rfl rfl (v_pick rfl rfl rfl rfl) ?_
 refine s_end ?_
 refine q_seq ?_
 refine c_cond1 rfl rfl ?_
 refine c_seq rfl ?_
 refine r_ord (l := [0, 1]) rfl (by kernel_rfl) (by kernel_rfl) ?_
 refine s_e rfl rfl (e_callK (fun z : Unit => .bool true) (fun z => []) #[] rfl rfl rfl rfl rfl Try.func10 rfl (by decide) rfl rfl (fun w ht => alive_calls w)) ?_
 intro z28_
 refine s_v rfl rfl rfl rfl (v_assign rfl rfl) ?_
 refine s_end ?_
 refine q_seq ?_
 refine c_ret rfl ?_
 refine q_then_ret ?_
 refine q_take [] rfl (by decide) ?_
 exact q_post rfl (.cons rfl (.nil)) hX
 have h27_d := of_decide_eq_false h27_
 refine s_vg rfl rfl rfl rfl (v_move rfl rfl) ?_
 refine s_vg rfl rfl rfl rfl (v_move rfl rfl) ?_
 refine s_vg rfl rfl rfl rfl (v_len rfl rfl rfl Try.underlying50 rfl rfl) ?_
 refine s_vg rfl rfl rfl rfl (v_arith rfl rfl rfl rfl) ?_
 refine s_v rfl rfl rfl rfl (v_pick rfl rfl rfl rfl) ?_
 refine s_v rfl rfl rfl rfl (v_move rfl rfl) ?_
 refine s_splitv (d := 75) (t := decide ((a_ : Int) ≥ (([] : List S43).length : Nat))) rfl (fun h29_ => ?_) (fun h29_ => ?_)
 have h29_d := of_decide_eq_true h29_
 refine s_no rfl rfl rfl rfl ?_
 refine s_no rfl rfl rfl rfl ?_
 refine s_no rfl rfl rfl rfl ?_
 refine s_no rfl rfl rfl rfl ?_
 refine s_no rfl rfl rfl rfl ?_
 refine s_no rfl rfl rfl rfl ?_
 refine s_v rfl rfl rfl rfl (v_pick rfl rfl rfl rfl) ?_
 refine s_end ?_
 refine q_seq ?_
 refine c_cond1 rfl rfl ?_
 refine c_seq rfl ?_
 refine r_ord (l := [0, 1]) rfl (by kernel_rfl) (by kernel_rfl) ?_
 refine s_e rfl rfl (e_callK (fun z : Unit => .bool true) (fun z => []) #[] rfl rfl rfl rfl rfl Try.func10 rfl (by decide) rfl rfl (fun w ht => alive_calls w)) ?_
 intro z30_
 refine s_v rfl rfl rfl rfl (v_assign rfl rfl) ?_
 refine s_end ?_
 refine q_seq ?_
 refine c_ret rfl ?_
 refine q_then_ret ?_
 refine q_take [] rfl (by decide) ?_
 exact q_post rfl (.cons rfl (.nil)) hX
 have h29_d := of_decide_eq_false h29_
 exact absurd h29_d (by have := h27_d; simp; omega)
 obtain ⟨hi_, hn0, hn1, hr1_, hr2_, hr3_, hr4_⟩ : k ≤ l.length ∧ n = k ∧ 0 < n ∧ n ≤ cap ∧ cap ≤ maxLen ∧ cur.size = cap * 14 ∧ cur.toList.take (n * 14) = inner := hs
 refine c_seq rfl ?_
 refine r_ord (l := [0]) rfl (by kernel_rfl) (by kernel_rfl) ?_
 refine s_v rfl rfl rfl rfl (v_arith rfl rfl rfl rfl) ?_
 refine s_end ?_
 refine q_seq ?_
 refine c_seq rfl ?_
 refine c_cond (t := decide ((((k : Nat) : Int) : Int) < (l.length : Nat))) rfl rfl (fun h31_ => ?_) (fun h31_ => ?_)
 have h31_d := of_decide_eq_true h31_
 have hkl : k < l.length := by omega
 have hsm := (mAt_facts l k).1
 have hlm : (mAt l k).length ≤ 1000 := by have := (mAt_facts l k).2; omega
 refine c_skip rfl ?_
 refine q_seq ?_
 refine c_seq rfl ?_
 refine c_block rfl ?_
 refine c_seq rfl ?_
 refine r_ord (l := [0, 1, 2, 3, 4, 5]) rfl (by kernel_rfl) (by kernel_rfl) ?_
 refine s_v rfl rfl rfl rfl (v_move rfl rfl) ?_
 refine s_v rfl rfl rfl rfl (v_iaK (i := 2) rfl Try.underlying50 SZ43 rfl rfl rfl rfl (by omega) (by omega)) ?_
 refine s_v rfl rfl rfl rfl (v_ldKA z43 [.int .i64 ((rd_T43 l ((k : Nat) : Int)).f0), .int .u64 ((rd_T43 l ((k : Nat) : Int)).f1), .int .u64 ((rd_T43 l ((k : Nat) : Int)).f2), .int .i64 ((rd_T43 l ((k : Nat) : Int)).f3), .int .i64 ((rd_T43 l ((k : Nat) : Int)).f4)] 2 rfl Try.underlying43 rfl SZ43 rfl rfl rfl rfl (by omega) (by omega) (fun w K h => k43_open h)) ?_
 refine s_e rfl rfl (e_alloc rfl rfl rfl ZR43) ?_
 intro b32_
 refine s_v rfl rfl rfl rfl (v_assign rfl rfl) ?_
 refine s_e rfl rfl (e_stA 0 rfl rfl SZ43 rfl rfl rfl rfl rfl rfl) ?_
 refine s_end ?_
 refine q_seq ?_
 refine c_seq rfl ?_
 refine r_ord (l := [0, 1, 2, 3, 4, 5, 6, 7, 8, 9]) rfl (by kernel_rfl) (by kernel_rfl) ?_
 refine s_v rfl rfl rfl rfl (v_ldA [.slice B ((mAt l k).length) d] 1 rfl Try.underlying35 rfl SZ35 rfl rfl rfl rfl) ?_
 refine s_v rfl rfl rfl rfl (v_ldA [.int .i64 ((rd_T43 l ((k : Nat) : Int)).f0), .int .u64 ((rd_T43 l ((k : Nat) : Int)).f1), .int .u64 ((rd_T43 l ((k : Nat) : Int)).f2), .int .i64 ((rd_T43 l ((k : Nat) : Int)).f3), .int .i64 ((rd_T43 l ((k : Nat) : Int)).f4)] 0 rfl Try.underlying43 rfl SZ43 rfl rfl rfl rfl) ?_
 obtain ⟨m1, q0, q1, q2, q3, hD⟩ : ∃ m1 q0 q1 q2 q3, Dm (mAt l k) (opAt l k).f0 (opAt l k).f1 (opAt l k).f2 (opAt l k).f3 = (m1, q0, q1, q2, q3) := ⟨_, _, _, _, _, rfl⟩
 refine s_e rfl rfl (e_callF [2] #[.agg #[.slice B ((mAt l k).length) d], .agg #[.int .i64 ((rd_T43 l ((k : Nat) : Int)).f0), .int .u64 ((rd_T43 l ((k : Nat) : Int)).f1), .int .u64 ((rd_T43 l ((k : Nat) : Int)).f2), .int .i64 ((rd_T43 l ((k : Nat) : Int)).f3), .int .i64 ((rd_T43 l ((k : Nat) : Int)).f4)]] rfl rfl rfl rfl rfl Try.func23 rfl (by decide) rfl rfl rfl rfl (fun w ht => do_conr B d (mAt l k) ((rd_T43 l ((k : Nat) : Int)).f0) ((rd_T43 l ((k : Nat) : Int)).f1) ((rd_T43 l ((k : Nat) : Int)).f2) ((rd_T43 l ((k : Nat) : Int)).f3) ((rd_T43 l ((k : Nat) : Int)).f4) hsm hlm m1 q0 q1 q2 q3 hD w _)) ?_
 intro A33_ c34_ A35_ c36_
 refine s_v rfl rfl rfl rfl (v_move rfl rfl) ?_
 refine s_v rfl rfl rfl rfl (v_ext rfl rfl rfl) ?_
 refine s_v rfl rfl rfl rfl (v_ext rfl rfl rfl) ?_
 refine s_e rfl rfl (e_alloc rfl rfl rfl ZR35) ?_
 intro b37_
 refine s_e rfl rfl (e_alloc rfl rfl rfl ZR46) ?_
 intro b38_
 refine s_e rfl rfl (e_stA 1 rfl rfl SZ35 rfl rfl rfl rfl rfl rfl) ?_
 refine s_e rfl rfl (e_stA 0 rfl rfl SZ46 rfl rfl rfl rfl rfl rfl) ?_
 refine s_end ?_
 refine q_seq ?_
 refine c_seq rfl ?_
 refine r_ord (l := [0, 1]) rfl (by kernel_rfl) (by kernel_rfl) ?_
 refine s_v rfl rfl rfl rfl (v_ldA [.slice A33_ m1.length c34_] 1 rfl Try.underlying35 rfl SZ35 rfl rfl rfl rfl) ?_
 refine s_e rfl rfl (e_stA 5 rfl rfl SZ35 rfl rfl rfl rfl rfl rfl) ?_
 refine s_end ?_
 refine q_seq ?_
 refine r_ord (l := [0, 1, 2, 3, 4, 5, 6, 7, 8, 9, 10, 11, 12, 13, 14, 15]) rfl (by kernel_rfl) (by kernel_rfl) ?_
 refine s_v rfl rfl rfl rfl (v_move rfl rfl) ?_
 refine s_v rfl rfl rfl rfl (v_ldA [.int .i64 ((rd_T43 l ((k : Nat) : Int)).f0), .int .u64 ((rd_T43 l ((k : Nat) : Int)).f1), .int .u64 ((rd_T43 l ((k : Nat) : Int)).f2), .int .i64 ((rd_T43 l ((k : Nat) : Int)).f3), .int .i64 ((rd_T43 l ((k : Nat) : Int)).f4)] 4 rfl Try.underlying43 rfl SZ43 rfl rfl rfl rfl) ?_
 refine s_v rfl rfl rfl rfl (v_move rfl rfl) ?_
 refine s_v rfl rfl rfl rfl (OpV.cast (v := .int .i64 (3 * (k : Int))) (v_arith rfl rfl rfl rfl) (by rw [wi64 (by omega) (by omega)])) ?_
 refine s_v rfl rfl rfl rfl (OpV.cast (v := .int .i64 (3 * (k : Int) + 1)) (v_arith rfl rfl rfl rfl) (by rw [wi64 (by omega) (by omega)])) ?_
 refine s_v rfl rfl rfl rfl (v_move rfl rfl) ?_
 refine s_v rfl rfl rfl rfl (OpV.cast (v := .int .i64 (3 * (k : Int))) (v_arith rfl rfl rfl rfl) (by rw [wi64 (by omega) (by omega)])) ?_
 refine s_v rfl rfl rfl rfl (OpV.cast (v := .int .i64 (3 * (k : Int) + 2)) (v_arith rfl rfl rfl rfl) (by rw [wi64 (by omega) (by omega)])) ?_
 refine s_v rfl rfl rfl rfl (v_move rfl rfl) ?_
 refine s_v rfl rfl rfl rfl (OpV.cast (v := .int .i64 (3 * (k : Int))) (v_arith rfl rfl rfl rfl) (by rw [wi64 (by omega) (by omega)])) ?_
 refine s_v rfl rfl rfl rfl (OpV.cast (v := .int .i64 (3 * (k : Int) + 3)) (v_arith rfl rfl rfl rfl) (by rw [wi64 (by omega) (by omega)])) ?_
 refine s_v rfl rfl rfl rfl (v_ldA [.bool q0, .bool q1, .int .u64 q2, .slice A35_ q3.length c36_] 0 rfl Try.underlying46 rfl SZ46 rfl rfl rfl rfl) ?_
 refine s_v rfl rfl rfl rfl (v_build (places := #[(0, 1), (1, 5), (6, 1), (7, 1), (8, 1), (9, 1), (10, 4)]) #[.int .i64 0, .int .i64 ((rd_T43 l ((k : Nat) : Int)).f0), .int .u64 ((rd_T43 l ((k : Nat) : Int)).f1), .int .u64 ((rd_T43 l ((k : Nat) : Int)).f2), .int .i64 ((rd_T43 l ((k : Nat) : Int)).f3), .int .i64 ((rd_T43 l ((k : Nat) : Int)).f4), .int .i64 (3 * (k : Int) + 1), .int .i64 (3 * (k : Int) + 2), .int .i64 (3 * (k : Int) + 3), .bool true, .bool q0, .bool q1, .int .u64 q2, .slice A35_ q3.length c36_] rfl ZR53 Try.underlying53 (by kernel_rfl) rfl (by kernel_rfl)) ?_
 refine s_e rfl rfl (e_bslice #[.int .i64 0, .int .i64 ((rd_T43 l ((k : Nat) : Int)).f0), .int .u64 ((rd_T43 l ((k : Nat) : Int)).f1), .int .u64 ((rd_T43 l ((k : Nat) : Int)).f2), .int .i64 ((rd_T43 l ((k : Nat) : Int)).f3), .int .i64 ((rd_T43 l ((k : Nat) : Int)).f4), .int .i64 (3 * (k : Int) + 1), .int .i64 (3 * (k : Int) + 2), .int .i64 (3 * (k : Int) + 3), .bool true, .bool q0, .bool q1, .int .u64 q2, .slice A35_ q3.length c36_] (.agg #[.int .i64 0, .int .i64 0, .int .u64 0, .int .u64 0, .int .i64 0, .int .i64 0, .int .i64 0, .int .i64 0, .int .i64 0, .bool false, .bool false, .bool false, .int .u64 0, .slice none 0 0]) rfl rfl rfl Try.underlying27 SZ53 ZR53 (by decide) rfl (by kernel_rfl)) ?_
 intro b39_
 refine s_e rfl rfl (e_app (z := (.agg #[.int .i64 0, .int .i64 0, .int .u64 0, .int .u64 0, .int .i64 0, .int .i64 0, .int .i64 0, .int .i64 0, .int .i64 0, .bool false, .bool false, .bool false, .int .u64 0, .slice none 0 0])) (m := 14) (bytes := 120) (k := 1) (news := [.int .i64 0, .int .i64 ((rd_T43 l ((k : Nat) : Int)).f0), .int .u64 ((rd_T43 l ((k : Nat) : Int)).f1), .int .u64 ((rd_T43 l ((k : Nat) : Int)).f2), .int .i64 ((rd_T43 l ((k : Nat) : Int)).f3), .int .i64 ((rd_T43 l ((k : Nat) : Int)).f4), .int .i64 (3 * (k : Int) + 1), .int .i64 (3 * (k : Int) + 2), .int .i64 (3 * (k : Int) + 3), .bool true, .bool q0, .bool q1, .int .u64 q2, .slice A35_ q3.length c36_]) (i := 0) (j := 9) rfl rfl rfl rfl rfl rfl Try.underlying27 (by kernel_rfl) rfl (by decide) rfl rfl hr1_ hr2_ hr3_ hr4_ rfl rfl rfl rfl (by simp [Value.oneCell']) (by omega) (by simp only [maxLen]; omega)) ?_
 intro g40_ cap41_ cur42_ h43_ h44_ h45_ h46_
 refine s_v rfl rfl rfl rfl (v_assign rfl rfl) ?_
 refine s_end ?_
 refine q_block ?_
 refine q_seq ?_
 refine r_ord (l := [0, 1]) rfl (by kernel_rfl) (by kernel_rfl) ?_
 refine s_v rfl rfl rfl rfl (OpV.cast (v := .int .i64 ((k + 1 : Nat) : Int)) (v_arith rfl rfl rfl rfl) (addN (a := k) (b := 1) (by first | omega | (simp only [List.length_set, swr_len, swp_len]; omega)))) ?_
 refine s_v rfl rfl rfl rfl (v_move rfl rfl) ?_
 refine s_end ?_
 refine q_both 10 4 rfl rfl ?_
 refine q_weak 0 rfl (fun w h => reps_turn hD h.1 h.2) ?_
 have he2 : mAt l (k + 1) = m1 := by rw [mAt_succ hkl]; unfold doO; rw [show Dm _ _ _ _ _ = _ from hD]
 exact q_again (k + 1, A33_, c34_, some (n + 1, g40_, cap41_, cur42_, (inner ++ turnC l k q0 q1 q2 A35_ q3.length c36_))) [8, 5, 10, 11, 0] ⟨by omega, by omega, by omega, h43_, h44_, h45_, h46_⟩ (by show l.length - (k + 1) < l.length - k; omega) (by dsimp only; exact subF_spec ⟨rfl, rfl, rfl, rfl, rfl, rfl, rfl, trivial⟩) (by dsimp only; rw [he2]; rfl) (by decide)
 have h31_d := of_decide_eq_false h31_
 have hlm : (mAt l l.length).length ≤ 1000 := by have := (mAt_facts l l.length).2; omega
 obtain rfl : k = l.length := by omega
 subst hn0
 refine c_exit (i := 0) rfl rfl ?_
 refine q_then_exit ?_
 refine q_then_exit ?_
 refine q_block_here rfl ?_
 refine q_seq ?_
 refine c_seq rfl ?_
 refine c_seq rfl ?_
 refine c_lend [KC k48 (some ⟨g, 0, none⟩) cap (outT l l.length), KC k56 B d (mAt l l.length), KC k43 A c l, fun w => w.heap[b3_]? = some (.cells #[.slice B ((mAt l l.length).length) d] 35 (0, 0))] (fun F_ => F_ = [(0, .slice A l.length c), (1, .int .i64 a_), (5, .pointer (some ⟨b3_, 0, none⟩)), (6, .slice (some ⟨g, 0, none⟩) l.length cap), (66, .bool false)]) (fun w ht => ?_) (fun w1 => ?_) (fun F_ hF_ => ?_)
 refine lend_cons (lend_2 (lend_b ht (i := 3) rfl) (lend_f ht (i := 4) rfl) (fun w h1 h2 => KC_ofReps (d := k48) (cap := cap) (xs := (outT l l.length)) h1 h2 (by rw [outT_len]; exact hr4_) (by rw [outT_len]; exact hr1_) hr2_)) ?_
 exact lend_cons (lend_f ht (i := 1) rfl) (lend_cons (lend_f ht (i := 2) rfl) (lend_cons (lend_b ht (i := 0) rfl) lend_nil))
 dsimp only
 rw [show (Value.slice (some ⟨g, 0, none⟩) l.length cap) = .slice (some ⟨g, 0, none⟩) (outT l l.length).length cap by rw [outT_len]]
 refine r_any [.f (KC k48 (some ⟨g, 0, none⟩) cap (outT l l.length)), .f (KC k56 B d (mAt l l.length)), .f (KC k43 A c l), .f (fun w => w.heap[b3_]? = some (.cells #[.slice B ((mAt l l.length).length) d] 35 (0, 0)))] (by kernel_rfl) rfl (by kernel_rfl) (mem_pick (idx := [0, 1, 2, 3]) rfl) ?_
 refine a_v 0 rfl (by kernel_rfl) (by kernel_rfl) (by kernel_rfl) rfl rfl rfl (v_move rfl rfl) ?_
 refine a_1 (i := 1) (by kernel_rfl) ?_
 refine i_e rfl rfl (e_callF [0] #[.slice (some ⟨g, 0, none⟩) ((outT l l.length).length) cap] rfl rfl rfl rfl rfl Try.func19 rfl (by decide) rfl rfl rfl rfl (fun w ht => Con.of (C' := fun X => X (.bool true) []) (legal_con (some ⟨g, 0, none⟩) cap (outT l l.length) (by rw [outT_len]; omega) (by have := hap_len (outT l l.length) (outT l l.length).length; rw [outT_len] at this; rw [outT_len]; omega) (outT_keys (by omega)) w _) (fun X hX => by have h_ : legalM (outT l l.length) = true := turns_legal l; rw [h_]; exact hX))) ?_
 refine ⟨(mem_pick (idx := [0, 1, 2, 3]) rfl), ?_⟩
 refine a_v 2 rfl (by kernel_rfl) (by kernel_rfl) (by kernel_rfl) rfl rfl rfl (v_not rfl rfl) ?_
 refine a_v 3 rfl (by kernel_rfl) (by kernel_rfl) (by kernel_rfl) rfl rfl rfl (v_move rfl rfl) ?_
 refine a_v 4 rfl (by kernel_rfl) (by kernel_rfl) (by kernel_rfl) rfl rfl rfl (v_move rfl rfl) ?_
 refine a_1 (i := 5) (by kernel_rfl) ?_
 refine i_e rfl rfl (e_callF [0] #[.slice (some ⟨g, 0, none⟩) ((outT l l.length).length) cap] rfl rfl rfl rfl rfl Try.func21 rfl (by decide) rfl rfl rfl rfl (fun w ht => Con.of (C' := fun X => X (.bool true) []) (ranges_con (some ⟨g, 0, none⟩) cap (outT l l.length) (by rw [outT_len]; omega) (by have := hap_len (outT l l.length) (outT l l.length).length; rw [outT_len] at this; rw [outT_len]; omega) (outT_keys (by omega)) w _) (fun X hX => by have h_ : rangesM (outT l l.length) = true := turns_ranges l; rw [h_]; exact hX))) ?_
 refine ⟨(mem_pick (idx := [0, 1, 2, 3]) rfl), ?_⟩
 refine a_v 6 rfl (by kernel_rfl) (by kernel_rfl) (by kernel_rfl) rfl rfl rfl (v_not rfl rfl) ?_
 refine a_v 7 rfl (by kernel_rfl) (by kernel_rfl) (by kernel_rfl) rfl rfl rfl (v_pick rfl rfl rfl rfl) ?_
 refine a_v 8 rfl (by kernel_rfl) (by kernel_rfl) (by kernel_rfl) rfl rfl rfl (v_move rfl rfl) ?_
 refine a_v 9 rfl (by kernel_rfl) (by kernel_rfl) (by kernel_rfl) rfl rfl rfl (v_move rfl rfl) ?_
 refine a_v 10 rfl (by kernel_rfl) (by kernel_rfl) (by kernel_rfl) rfl rfl rfl (v_move rfl rfl) ?_
 refine a_v 11 rfl (by kernel_rfl) (by kernel_rfl) (by kernel_rfl) rfl rfl rfl (v_len rfl rfl rfl Try.underlying50 rfl rfl) ?_
 refine a_v 12 rfl (by kernel_rfl) (by kernel_rfl) (by kernel_rfl) rfl rfl rfl (OpV.cast (v := .int .i64 (3 * (l.length : Int))) (v_arith rfl rfl rfl rfl) (by rw [wi64 (by omega) (by omega)])) ?_
 refine a_v 16 rfl (by kernel_rfl) (by kernel_rfl) (by kernel_rfl) rfl rfl rfl (v_ldAr [.slice B ((mAt l l.length).length) d] 3 rfl Try.underlying35 rfl SZ35 rfl rfl rfl rfl) ?_
 refine a_1 (i := 13) (by kernel_rfl) ?_
 refine i_e rfl rfl (e_callF [0] #[.slice (some ⟨g, 0, none⟩) ((outT l l.length).length) cap, .int .i64 (3 * (l.length : Int))] rfl rfl rfl rfl rfl Try.func16 rfl (by decide) rfl rfl rfl rfl (fun w ht => Con.of (C' := fun X => ∀ A1 c1, X (.agg #[.slice A1 ((mAt l l.length).length) c1]) [.f (KC k56 A1 c1 (mAt l l.length))]) (hmap_con (some ⟨g, 0, none⟩) cap (outT l l.length) (3 * (l.length : Int)) (by rw [outT_len]; omega) (by have := hap_len (outT l l.length) (outT l l.length).length; rw [outT_len] at this; rw [outT_len]; omega) w _) (fun X hX A1 c1 => by rw [show (mapF (outT l l.length) (3 * (l.length : Int)) (ordL (outT l l.length))) = (mAt l l.length) from turns_map l]; exact hX A1 c1))) ?_
 intro A47_ c48_
 refine ⟨(mem_pick (idx := [1, 2, 3, 4]) rfl), ?_⟩
 refine a_1 (i := 14) (by kernel_rfl) ?_
 refine i_e rfl rfl (e_callK (fun z : Option Addr × Nat => .slice z.1 ((mAt l l.length).length) z.2) (fun z => [KC k56 z.1 z.2 (mAt l l.length)]) #[.agg #[.slice A47_ ((mAt l l.length).length) c48_]] rfl rfl rfl rfl rfl Try.func17 rfl (by decide) rfl rfl (fun w ht => seq_Map_Pairs.con _ _ (mAt l l.length) _ (pairs_f (mAt l l.length) hlm) w (Tri.fact ht 0 rfl))) ?_
 intro z49_
 refine ⟨(mem_pick (idx := [2, 3, 4, 5]) rfl), ?_⟩
 refine a_1 (i := 15) (by kernel_rfl) ?_
 refine i_e rfl rfl (e_callK (fun z : Option Addr × Nat => .slice z.1 (((mAt l l.length).map old).length) z.2) (fun z => [KC k61 z.1 z.2 ((mAt l l.length).map old)]) #[.slice z49_.1 ((mAt l l.length).length) z49_.2] rfl rfl rfl rfl rfl Try.func15 rfl (by decide) rfl rfl (fun w ht => stepstonelaw07_Olds.con 5000 _ _ _ _ (olds_f (mAt l l.length) hlm 5000 (by omega)) w (Tri.fact ht 0 rfl))) ?_
 intro z50_
 refine ⟨(mem_pick (idx := [3, 4, 5, 6]) rfl), ?_⟩
 refine a_1 (i := 17) (by kernel_rfl) ?_
 refine i_e rfl rfl (e_callK (fun z : Option Addr × Nat => .slice z.1 ((mAt l l.length).length) z.2) (fun z => [KC k56 z.1 z.2 (mAt l l.length)]) #[.agg #[.slice B ((mAt l l.length).length) d]] rfl rfl rfl rfl rfl Try.func17 rfl (by decide) rfl rfl (fun w ht => seq_Map_Pairs.con _ _ (mAt l l.length) _ (pairs_f (mAt l l.length) hlm) w (Tri.fact ht 4 rfl))) ?_
 intro z51_
 refine ⟨(mem_pick (idx := [4, 5, 6, 7]) rfl), ?_⟩
 refine a_1 (i := 18) (by kernel_rfl) ?_
 refine i_e rfl rfl (e_callK (fun z : Option Addr × Nat => .slice z.1 (((mAt l l.length).map old).length) z.2) (fun z => [KC k61 z.1 z.2 ((mAt l l.length).map old)]) #[.slice z51_.1 ((mAt l l.length).length) z51_.2] rfl rfl rfl rfl rfl Try.func15 rfl (by decide) rfl rfl (fun w ht => stepstonelaw07_Olds.con 5000 _ _ _ _ (olds_f (mAt l l.length) hlm 5000 (by omega)) w (Tri.fact ht 0 rfl))) ?_
 intro z52_
 refine ⟨(mem_pick (idx := [5, 6, 7, 8]) rfl), ?_⟩
 refine a_1 (i := 19) (by kernel_rfl) ?_
 refine i_e rfl rfl (e_callK (fun z : Unit => .bool true) (fun z => []) #[.slice z50_.1 (((mAt l l.length).map old).length) z50_.2, .slice z52_.1 (((mAt l l.length).map old).length) z52_.2] rfl rfl rfl rfl rfl Try.func14 rfl (by decide) rfl rfl (fun w ht => stepstoneref07_Equal.con 5000 _ _ _ _ _ _ _ ((equal_f ((mAt l l.length).map old) ((mAt l l.length).map old) (by rw [List.length_map]; exact hlm) 5000 (by omega)).trans (by simp)) w (Tri.fact ht 2 rfl) (Tri.fact ht 0 rfl))) ?_
 intro z53_
 refine ⟨(mem_pick (idx := [5, 6, 7, 8]) rfl), ?_⟩
 refine a_v 20 rfl (by kernel_rfl) (by kernel_rfl) (by kernel_rfl) rfl rfl rfl (v_not rfl rfl) ?_
 refine a_v 21 rfl (by kernel_rfl) (by kernel_rfl) (by kernel_rfl) rfl rfl rfl (v_pick rfl rfl rfl rfl) ?_
 refine a_end (by kernel_rfl) ?_
 exact fun _ _ a w hf ht => ⟨rfl, _, rfl, hf.sub (subF_spec ⟨rfl, rfl, rfl, (by rw [outT_len]; rfl), rfl, trivial⟩), ht.toAgree⟩
 subst hF_
 refine q_seq ?_
 refine c_cond0 rfl rfl ?_
 refine c_skip rfl ?_
 refine q_seq ?_
 refine c_seq rfl ?_
 refine c_seq rfl ?_
 refine r_ord (l := [0, 1, 2, 3, 4, 5, 6, 7, 8, 9, 10, 11, 12, 13, 14, 15]) rfl (by kernel_rfl) (by kernel_rfl) ?_
 refine s_v rfl rfl rfl rfl (v_move rfl rfl) ?_
 refine s_v rfl rfl rfl rfl (v_arith rfl rfl rfl rfl) ?_
 refine s_v rfl rfl rfl rfl (v_move rfl rfl) ?_
 refine s_splitv (d := 69) (t := decide ((a_ : Int) < 0)) rfl (fun h54_ => ?_) (fun h54_ => ?_)
 have h54_d := of_decide_eq_true h54_
 refine s_no rfl rfl rfl rfl ?_
 refine s_no rfl rfl rfl rfl ?_
 refine s_no rfl rfl rfl rfl ?_
 refine s_no rfl rfl rfl rfl ?_
 refine s_v rfl rfl rfl rfl (v_pick rfl rfl rfl rfl) ?_
 refine s_v rfl rfl rfl rfl (v_move rfl rfl) ?_
 refine s_no rfl rfl rfl rfl ?_
 refine s_no rfl rfl rfl rfl ?_
 refine s_no rfl rfl rfl rfl ?_
 refine s_no rfl rfl rfl rfl ?_
 refine s_no rfl rfl rfl rfl ?_
 refine s_no rfl rfl rfl rfl ?_
 refine s_v rfl rfl rfl rfl (v_pick rfl rfl rfl rfl) ?_
 refine s_end ?_
 refine q_seq ?_
 refine c_cond1 rfl rfl ?_
 refine c_seq rfl ?_
 refine r_ord (l := [0, 1]) rfl (by kernel_rfl) (by kernel_rfl) ?_
 refine s_e rfl rfl (e_callK (fun z : Unit => .bool true) (fun z => []) #[] rfl rfl rfl rfl rfl Try.func10 rfl (by decide) rfl rfl (fun w ht => alive_calls w)) ?_
 intro z55_
 refine s_v rfl rfl rfl rfl (v_assign rfl rfl) ?_
 refine s_end ?_
 refine q_seq ?_
 refine c_ret rfl ?_
 refine q_then_ret ?_
 refine q_take [] rfl (by decide) ?_
 exact q_post rfl (.cons rfl (.nil)) hX
 have h54_d := of_decide_eq_false h54_
 refine s_vg rfl rfl rfl rfl (v_move rfl rfl) ?_
 refine s_vg rfl rfl rfl rfl (v_move rfl rfl) ?_
 refine s_vg rfl rfl rfl rfl (v_len rfl rfl rfl Try.underlying50 rfl rfl) ?_
 refine s_vg rfl rfl rfl rfl (v_arith rfl rfl rfl rfl) ?_
 refine s_v rfl rfl rfl rfl (v_pick rfl rfl rfl rfl) ?_
 refine s_v rfl rfl rfl rfl (v_move rfl rfl) ?_
 refine s_splitv (d := 75) (t := decide ((a_ : Int) ≥ (l.length : Nat))) rfl (fun h56_ => ?_) (fun h56_ => ?_)
 have h56_d := of_decide_eq_true h56_
 refine s_no rfl rfl rfl rfl ?_
 refine s_no rfl rfl rfl rfl ?_
 refine s_no rfl rfl rfl rfl ?_
 refine s_no rfl rfl rfl rfl ?_
 refine s_no rfl rfl rfl rfl ?_
 refine s_no rfl rfl rfl rfl ?_
 refine s_v rfl rfl rfl rfl (v_pick rfl rfl rfl rfl) ?_
 refine s_end ?_
 refine q_seq ?_
 refine c_cond1 rfl rfl ?_
 refine c_seq rfl ?_
 refine r_ord (l := [0, 1]) rfl (by kernel_rfl) (by kernel_rfl) ?_
 refine s_e rfl rfl (e_callK (fun z : Unit => .bool true) (fun z => []) #[] rfl rfl rfl rfl rfl Try.func10 rfl (by decide) rfl rfl (fun w ht => alive_calls w)) ?_
 intro z57_
 refine s_v rfl rfl rfl rfl (v_assign rfl rfl) ?_
 refine s_end ?_
 refine q_seq ?_
 refine c_ret rfl ?_
 refine q_then_ret ?_
 refine q_take [] rfl (by decide) ?_
 exact q_post rfl (.cons rfl (.nil)) hX
 have h56_d := of_decide_eq_false h56_
 obtain ⟨q, rfl⟩ : ∃ q : Nat, a_ = q := ⟨a_.toNat, by omega⟩
 have hq : q < l.length := by omega
 refine s_vg rfl rfl rfl rfl (v_move rfl rfl) ?_
 refine s_vg rfl rfl rfl rfl (v_move rfl rfl) ?_
 refine s_vg rfl rfl rfl rfl (v_iaK (i := 2) rfl Try.underlying50 SZ43 rfl rfl rfl rfl (by omega) (by omega)) ?_
 refine s_vg rfl rfl rfl rfl (v_fax rfl Try.underlying43 rfl SZ3 rfl) ?_
 refine s_vg rfl rfl rfl rfl (v_ldKf (v := .int .i64 ((rd_T43 l ((q : Nat) : Int)).f0)) z43 [.int .i64 ((rd_T43 l ((q : Nat) : Int)).f0), .int .u64 ((rd_T43 l ((q : Nat) : Int)).f1), .int .u64 ((rd_T43 l ((q : Nat) : Int)).f2), .int .i64 ((rd_T43 l ((q : Nat) : Int)).f3), .int .i64 ((rd_T43 l ((q : Nat) : Int)).f4)] 2 rfl Try.underlying3 rfl rfl rfl rfl (by omega) (by omega) (fun w K h => k43_open h) rfl) ?_
 refine s_vg rfl rfl rfl rfl (v_arith rfl rfl rfl rfl) ?_
 refine s_v rfl rfl rfl rfl (v_pick rfl rfl rfl rfl) ?_
 refine s_end ?_
 refine q_seq ?_
 refine c_cond (t := ((rd_T43 l ((q : Nat) : Int)).f0 : Int) == 5) rfl rfl (fun h58_ => ?_) (fun h58_ => ?_)
 refine c_seq rfl ?_
 refine r_ord (l := [0, 1]) rfl (by kernel_rfl) (by kernel_rfl) ?_
 refine s_e rfl rfl (e_callK (fun z : Unit => .bool true) (fun z => []) #[] rfl rfl rfl rfl rfl Try.func10 rfl (by decide) rfl rfl (fun w ht => alive_calls w)) ?_
 intro z59_
 refine s_v rfl rfl rfl rfl (v_assign rfl rfl) ?_
 refine s_end ?_
 refine q_seq ?_
 refine c_ret rfl ?_
 refine q_then_ret ?_
 refine q_take [] rfl (by decide) ?_
 exact q_post rfl (.cons rfl (.nil)) hX
 have hq5 : (opAt l q).f0 ≠ 5 := by simpa using (show ((opAt l q).f0 == 5) = false from h58_)
 refine c_skip rfl ?_
 refine q_seq ?_
 refine c_seq rfl ?_
 refine c_know 4 rfl (fun w h => reps_at (k := q) h hq) (fun hgot => ?_)
 refine r_ord (l := [0, 1, 2, 3, 4, 5, 6, 7, 8, 9, 10]) rfl (by kernel_rfl) (by kernel_rfl) ?_
 refine s_v rfl rfl rfl rfl (v_move rfl rfl) ?_
 refine s_v rfl rfl rfl rfl (v_move rfl rfl) ?_
 refine s_v rfl rfl rfl rfl (OpV.cast (v := .pointer (some ⟨g, q * 14, none⟩)) (v_ia rfl Try.underlying27 SZ53 rfl rfl (by omega) (by omega)) (by rw [Int.toNat_natCast, add0x])) ?_
 refine s_v rfl rfl rfl rfl (v_fa rfl Try.underlying53 rfl SZ46 rfl) ?_
 refine s_v rfl rfl rfl rfl (v_fa rfl Try.underlying46 rfl SZ41 rfl) ?_
 refine s_v rfl rfl rfl rfl (v_ld (v := .int .u64 (evT l q).f6.f2) 3 rfl Try.underlying41 rfl rfl rfl (cur_bump hr4_ hgot hq)) ?_
 refine s_v rfl rfl rfl rfl (v_arith rfl rfl rfl rfl) ?_
 refine s_v rfl rfl rfl rfl (OpV.cast (v := .pointer (some ⟨g, q * 14, none⟩)) (v_ia rfl Try.underlying27 SZ53 rfl rfl (by omega) (by omega)) (by rw [Int.toNat_natCast, add0x])) ?_
 refine s_v rfl rfl rfl rfl (v_fa rfl Try.underlying53 rfl SZ46 rfl) ?_
 refine s_v rfl rfl rfl rfl (v_fa rfl Try.underlying46 rfl SZ41 rfl) ?_
 refine s_e rfl rfl (e_st 3 rfl rfl SZ41 rfl rfl rfl rfl (by show q * 14 + 10 + 2 < cur.size; rw [hr3_]; omega)) ?_
 refine s_end ?_
 refine q_seq ?_
 refine c_seq rfl ?_
 refine c_give [3, 0, 1, 2, 4] rfl (by decide) (by simp [ids, Ent.id?]) (fun w h => h) ?_
 refine c_both 0 4 rfl rfl ?_
 refine c_weak 0 rfl (fun w h => (show KC k48 (some ⟨g, 0, none⟩) cap (bumpT l q) w from KC_ofReps (cap := cap) (xs := bumpT l q) h.1 (reps_bump h.2 hq) (by rw [bumpT_len]; exact take_bump hr4_ hq (by rw [hr3_]; omega)) (by rw [bumpT_len]; exact hr1_) hr2_)) ?_
 have hbl := bumpT_len l q
 dsimp only
 rw [show (Value.slice (some ⟨g, 0, none⟩) l.length cap) = .slice (some ⟨g, 0, none⟩) (bumpT l q).length cap by rw [hbl]]
 refine r_ord (l := [0, 1, 2, 3, 4, 5, 6]) rfl (by kernel_rfl) (by kernel_rfl) ?_
 refine s_e rfl rfl (e_callK (fun z : Unit => .bool true) (fun z => []) #[] rfl rfl rfl rfl rfl Try.func10 rfl (by decide) rfl rfl (fun w ht => alive_calls w)) ?_
 intro z60_
 refine s_v rfl rfl rfl rfl (v_move rfl rfl) ?_
 refine s_vg rfl rfl rfl rfl (v_move rfl rfl) ?_
 refine s_eg rfl rfl (e_callF [0] #[.slice (some ⟨g, 0, none⟩) ((bumpT l q).length) cap] rfl rfl rfl rfl rfl Try.func19 rfl (by decide) rfl rfl rfl rfl (fun w ht => Con.of (C' := fun X => X (.bool false) []) (legal_con (some ⟨g, 0, none⟩) cap (bumpT l q) (by rw [bumpT_len]; omega) (by have := hap_len (bumpT l q) (bumpT l q).length; rw [bumpT_len] at this; rw [bumpT_len]; omega) (bumpT_keys (by omega) hq) w _) (fun X hX => by have h_ : legalM (bumpT l q) = false := bump_legal hq hq5; rw [h_]; exact hX))) ?_
 refine s_vg rfl rfl rfl rfl (v_not rfl rfl) ?_
 refine s_v rfl rfl rfl rfl (v_pick rfl rfl rfl rfl) ?_
 refine s_v rfl rfl rfl rfl (v_assign rfl rfl) ?_
 refine s_end ?_
 refine q_seq ?_
 refine c_ret rfl ?_
 refine q_take [] rfl (by decide) ?_
 exact q_post rfl (.cons rfl (.nil)) hX
end Go.Eng
