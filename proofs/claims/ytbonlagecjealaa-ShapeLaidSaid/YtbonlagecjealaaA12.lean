/-
Own text, put together by an own program (shake.py) out of this claim's texts: what its theorem needs of them.
-/
import Derived.Test.YtbonlagecjealaaA11
namespace Go.Eng
open Go.Proofs Go.RowKit Go.Proofs.YtbonlagecjealaaW.PrintWords Go.Proofs.Ytbonlagecjealaa.GSeq
set_option linter.unusedVariables false
set_option linter.unusedSimpArgs false
def ylF (C : Int) (nm : Int → Bool) (pl nx : Int → Int) : Nat → Int → Int → List (Int × Int)
  | 0, _, _ => []
  | m + 1, j, x => if j ≤ C then (if nm x = true then (j, pl x) :: ylF C nm pl nx m (j + 1) (nx x) else []) else []
theorem attach_step {α : Type} {l : List α} {j : Nat} {x : α} (h : l[j]? = some x) : ∃ a : {p : α // p ∈ l}, a.1 = x ∧ l.attach.take (j + 1) = l.attach.take j ++ [a] := by
  have hj : j < l.length := (List.getElem?_eq_some_iff.1 h).1
  have hj2 : j < l.attach.length := by rw [List.length_attach]; exact hj
  refine ⟨l.attach[j], ?_, ?_⟩
  · rw [List.getElem_attach]
    exact (List.getElem?_eq_some_iff.1 h).2
  · rw [List.take_add_one, List.getElem?_eq_getElem hj2]
    rfl
set_option maxRecDepth 100000 in
set_option maxHeartbeats 4000000 in
theorem level1_stops (n : Nat) (hn : 1 ≤ n) (bw bk : Nat) (G : List Nat) (T S C H K V L : Int) (A : Option Addr) (c : Nat) (l : List Int) (lev x0 : Int) (nm : Int → Bool) (pl nx : Int → Int) (N : Nat) (hN : (N : Int) ≤ 1000000) (hCN : C < N)
    (hx0 : shape_words_at.f T S C H K V L l 0 (IntKind.wrap .i64 (6 + lev)) = some x0) (hnm : ∀ x, shape_words_names.f T S C H K V L l x = some (nm x)) (hpl : ∀ x, handle_Plain.f x = some (pl x)) (hnx : ∀ x, nm x = true → shape_words_at.f T S C H K V L l (x % 4294967296) (IntKind.wrap .i64 (6 + lev)) = some (nx x))
    (w : World) (hBw : w.heap[bw]? = some (.cells #[.int .i64 T, .int .i64 S, .int .i64 C, .int .i64 H, .int .i64 K, .int .i64 V, .int .i64 L, .slice A l.length c] 63 (0, 0))) (hBk : w.heap[bk]? = some (.cells #[.int .i64 lev] 3 (0, 0))) (hwg : bw ∉ G) (hkg : bk ∉ G) (hC : Stab G w (KC (Kd.int .u64) A c l)) :
    SeqStopsK Fence.wide n Try.prog 57 #[.pointer (some ⟨bw, 0, none⟩), .pointer (some ⟨bk, 0, none⟩)] (fun x : {p : Int × Int // p ∈ (ylF C nm pl nx N 0 x0)} => #[Value.int .i64 x.1.1, Value.int .u64 x.1.2]) (KG w.heap.size G) (fun ys => ys = (ylF C nm pl nx N 0 x0).attach) (fun pre => pre <+: (ylF C nm pl nx N 0 x0).attach) ((ylF C nm pl nx N 0 x0)).length w := fun ly J Jx W hW hJ hJx hY h0 => by
  have agree_of : ∀ W1, KG w.heap.size G w W1 → Agree G w W1 := fun W1 h => ⟨h.os, h.tape, h.output, h.size, fun b hb hn => h.block b hb hn⟩
  have stabPsi : ∀ pre W1, (J pre W1 ∧ KG w.heap.size G w W1 ∧ W.heap.size ≤ W1.heap.size) → Stab [] W1 (fun W_ => J pre W_ ∧ KG w.heap.size G w W_ ∧ W.heap.size ≤ W_.heap.size) := fun pre W1 h W2 ha =>
    ⟨hJ pre W1 W2 none h.1 ⟨ha.os, ha.tape, ha.output, ha.size, fun k hk _ => ha.frame k hk (by simp)⟩ (fun r e => by cases e), h.2.1.trans ⟨ha.os, ha.tape, ha.output, ha.size, fun k hk _ => ha.frame k (Nat.lt_of_lt_of_le hk h.2.1.size) (by simp)⟩, Nat.le_trans h.2.2 ha.size⟩
  have stabJx : ∀ pre W1, Jx pre W1 → Stab [] W1 (Jx pre) := fun pre W1 h W2 ha => hJx pre W1 W2 none h ⟨ha.os, ha.tape, ha.output, ha.size, fun k hk _ => ha.frame k hk (by simp)⟩ (fun r e => by cases e)
  have stab1 : ∀ φ : World → Prop, Stab G w φ → ∀ W1, KG w.heap.size G w W1 → Stab [] W1 φ := fun φ hφ W1 h => hφ.on (agree_of W1 h) (fun x hx _ => by cases hx)
  have sBw : Stab G w (fun w => w.heap[bw]? = some (.cells #[.int .i64 T, .int .i64 S, .int .i64 C, .int .i64 H, .int .i64 K, .int .i64 V, .int .i64 L, .slice A l.length c] 63 (0, 0))) := fun W1 ha => (ha.frame bw (Array.getElem?_eq_some_iff.1 hBw).1 hwg).trans hBw
  have sBk : Stab G w (fun w => w.heap[bk]? = some (.cells #[.int .i64 lev] 3 (0, 0))) := fun W1 ha => (ha.frame bk (Array.getElem?_eq_some_iff.1 hBk).1 hkg).trans hBk
  have tri_of : ∀ (φs : List (World → Prop)) (W1 : World), Agree G w W1 → (∀ φ ∈ φs, Stab [] W1 φ) → Tri w ⟨G, []⟩ W1 (φs.map Ent.f) := fun φs W1 ha h => { toAgree := ha, at_ := fun k o hk => (by obtain ⟨φ, _, e⟩ := List.mem_map.1 hk; cases e), own := fun k hk => (by rw [ids_facts] at hk; cases hk), nodup := (by rw [ids_facts]; exact List.nodup_nil), hol := fun k hk => (by cases hk), facts := fun φ hφ => (by obtain ⟨ψ, hψ, e⟩ := List.mem_map.1 hφ; injection e with e; subst e; rw [ids_facts]; exact h ψ hψ) }
  have hyield : ∀ (j : Nat) (x : Int) (a_ : {p : Int × Int // p ∈ (ylF C nm pl nx N 0 x0)}) (ha_ : a_.1 = ((j : Int), pl x)) (w1 : World), Tri w ⟨G, []⟩ w1 [.f (fun W_ => J ((ylF C nm pl nx N 0 x0).attach.take j) W_ ∧ KG w.heap.size G w W_ ∧ W.heap.size ≤ W_.heap.size), .f (fun w => w.heap[bw]? = some (.cells #[.int .i64 T, .int .i64 S, .int .i64 C, .int .i64 H, .int .i64 K, .int .i64 V, .int .i64 L, .slice A l.length c] 63 (0, 0))), .f (fun w => w.heap[bk]? = some (.cells #[.int .i64 lev] 3 (0, 0))), .f (KC (Kd.int .u64) A c l)] → j < (ylF C nm pl nx N 0 x0).length → (ylF C nm pl nx N 0 x0).attach.take (j + 1) = (ylF C nm pl nx N 0 x0).attach.take j ++ [a_] → YieldAt Fence.wide (n - 1) Try.prog ly #[.int .i64 (j : Int), .int .u64 (pl x)] w1 (fun e w' => (e = .returned (.bool true) ∧ Tri w ⟨G, []⟩ w' [.f (fun W_ => J ((ylF C nm pl nx N 0 x0).attach.take (j + 1)) W_ ∧ KG w.heap.size G w W_ ∧ W.heap.size ≤ W_.heap.size), .f (fun w => w.heap[bw]? = some (.cells #[.int .i64 T, .int .i64 S, .int .i64 C, .int .i64 H, .int .i64 K, .int .i64 V, .int .i64 L, .slice A l.length c] 63 (0, 0))), .f (fun w => w.heap[bk]? = some (.cells #[.int .i64 lev] 3 (0, 0))), .f (KC (Kd.int .u64) A c l)]) ∨ (e = .returned (.bool false) ∧ Tri w' ⟨[], []⟩ w' [.f (Jx ((ylF C nm pl nx N 0 x0).attach.take (j + 1)))])) := by
    intro j x a_ ha_ w1 ht1 hlt htk
    have h1 := (ht1.fact 0 rfl : J ((ylF C nm pl nx N 0 x0).attach.take j) w1 ∧ KG w.heap.size G w w1 ∧ W.heap.size ≤ w1.heap.size)
    obtain ⟨fn, tmps, assign, body, hy, hR⟩ := hY ((ylF C nm pl nx N 0 x0).attach.take j) a_ w1 h1.1 (by rw [List.length_take, List.length_attach]; omega)
    simp only [ha_] at hy
    refine ⟨fn, tmps, assign, body, hy, hR.mono ?_⟩
    rintro e W3 (⟨rfl, hJ3, hk3⟩ | ⟨rfl, hJx3⟩)
    · refine .inl ⟨rfl, ?_⟩
      rw [htk]
      have hk4 : KG w.heap.size G w W3 := h1.2.1.trans hk3
      have hps := stabPsi _ W3 ⟨hJ3, hk4, Nat.le_trans h1.2.2 hk3.size⟩
      refine tri_of [_, _, _, _] W3 ?_ ?_
      · exact agree_of W3 hk4
      · intro φ hφ
        simp only [List.mem_cons, List.not_mem_nil, or_false] at hφ
        rcases hφ with rfl | rfl | rfl | rfl
        · exact hps
        · exact stab1 _ sBw W3 hk4
        · exact stab1 _ sBk W3 hk4
        · exact stab1 _ hC W3 hk4
    · refine .inr ⟨rfl, ?_⟩
      rw [htk]
      refine { toAgree := Agree.refl _ _, at_ := fun k o hk => (by simp at hk), own := fun k hk => (by cases hk), nodup := List.nodup_nil, facts := fun φ hφ => ?_, hol := fun k hk => (by cases hk) }
      rw [List.mem_singleton] at hφ
      injection hφ with e
      subst e
      exact stabJx _ W3 hJx3
  have ht0 : Tri w ⟨G, []⟩ W [.f (fun W_ => J ([]) W_ ∧ KG w.heap.size G w W_ ∧ W.heap.size ≤ W_.heap.size), .f (fun w => w.heap[bw]? = some (.cells #[.int .i64 T, .int .i64 S, .int .i64 C, .int .i64 H, .int .i64 K, .int .i64 V, .int .i64 L, .slice A l.length c] 63 (0, 0))), .f (fun w => w.heap[bk]? = some (.cells #[.int .i64 lev] 3 (0, 0))), .f (KC (Kd.int .u64) A c l)] := by
    have hk0 : KG w.heap.size G w W := ⟨hW.os, hW.tape, hW.output, hW.size, fun k hk _ => hW.block k hk⟩
    refine tri_of [_, _, _, _] W (agree_of W hk0) ?_
    intro φ hφ
    simp only [List.mem_cons, List.not_mem_nil, or_false] at hφ
    rcases hφ with rfl | rfl | rfl | rfl
    · exact stabPsi _ W ⟨h0, hk0, Nat.le_refl _⟩
    · exact stab1 _ sBw W hk0
    · exact stab1 _ sBk W hk0
    · exact stab1 _ hC W hk0
  refine ins_enter (c := bodyOf Try.f57) Try.func57 rfl (m := 34) rfl rfl rfl ht0 (fun _ _ h => (by obtain ⟨⟨v, h⟩, _⟩ := h; cases h)) (fun _ h => (by obtain ⟨⟨v, h⟩, _⟩ := h; cases h)) ?_
  refine c_seq rfl ?_
  refine r_ord (l := [0, 1, 2, 3, 4]) rfl (by kernel_rfl) (by kernel_rfl) ?_
  refine s_v rfl rfl rfl rfl (v_ldAr [.int .i64 T, .int .i64 S, .int .i64 C, .int .i64 H, .int .i64 K, .int .i64 V, .int .i64 L, .slice A l.length c] 1 rfl Try.underlying63 rfl SZ63 rfl rfl rfl rfl) ?_
  refine s_v rfl rfl rfl rfl (v_ldr 2 rfl Try.underlying3 rfl rfl rfl rfl) ?_
  refine s_v rfl rfl rfl rfl (v_arith rfl rfl rfl rfl) ?_
  refine s_e rfl rfl (e_callF [3] #[.agg #[.int .i64 T, .int .i64 S, .int .i64 C, .int .i64 H, .int .i64 K, .int .i64 V, .int .i64 L, .slice A l.length c], .int .i64 0, .int .i64 (IntKind.wrap .i64 (6 + lev))] rfl rfl rfl rfl rfl Try.func28 rfl (by decide) rfl rfl rfl rfl (fun w ht => shape_words_at_con T S C H K V L A c l 0 (IntKind.wrap .i64 (6 + lev)) x0 hx0 w _)) ?_
  refine s_v rfl rfl rfl rfl (v_assign rfl rfl) ?_
  refine s_end ?_
  refine q_seq ?_
  refine c_seq rfl ?_
  refine r_ord (l := [0]) rfl (by kernel_rfl) (by kernel_rfl) ?_
  refine s_v rfl rfl rfl rfl (v_assign rfl rfl) ?_
  refine s_end ?_
  refine q_seq ?_
  refine c_block rfl ?_
  refine c_loop (σ := Nat × Int) (fun s_ : Nat × Int => match s_ with | (j, x) => j ≤ (ylF C nm pl nx N 0 x0).length ∧ (ylF C nm pl nx N 0 x0).drop j = ylF C nm pl nx (N - j) j x ∧ j ≤ N) (fun s_ : Nat × Int => match s_ with | (j, x) => (ylF C nm pl nx N 0 x0).length - j) (fun s_ : Nat × Int => match s_ with | (j, x) => [(0, .func (.yield ly) #[] #[]), (1, .pointer (some ⟨bw, 0, none⟩)), (2, .pointer (some ⟨bk, 0, none⟩)), (4, .int .u64 x), (5, .int .i64 (j : Int))]) (fun s_ : Nat × Int => match s_ with | (j, x) => [.f (fun W_ => J ((ylF C nm pl nx N 0 x0).attach.take j) W_ ∧ KG w.heap.size G w W_ ∧ W.heap.size ≤ W_.heap.size), .f (fun w => w.heap[bw]? = some (.cells #[.int .i64 T, .int .i64 S, .int .i64 C, .int .i64 H, .int .i64 K, .int .i64 V, .int .i64 L, .slice A l.length c] 63 (0, 0))), .f (fun w => w.heap[bk]? = some (.cells #[.int .i64 lev] 3 (0, 0))), .f (KC (Kd.int .u64) A c l)]) (0, x0) [0, 1, 2, 3] rfl ⟨Nat.zero_le _, rfl, Nat.zero_le _⟩ (subF_spec ⟨rfl, rfl, rfl, rfl, rfl, trivial⟩) rfl (by decide) ?_
  rintro ⟨j, x⟩ ⟨hj, hd, hjN⟩
  refine c_seq rfl ?_
  refine c_seq rfl ?_
  refine r_ord (l := [0, 1, 2, 3, 4, 5, 6, 7, 8, 9]) rfl (by kernel_rfl) (by kernel_rfl) ?_
  refine s_v rfl rfl rfl rfl (v_move rfl rfl) ?_
  refine s_v rfl rfl rfl rfl (v_fa rfl Try.underlying63 rfl SZ23 rfl) ?_
  refine s_v rfl rfl rfl rfl (v_fa rfl Try.underlying23 rfl SZ3 rfl) ?_
  refine s_v rfl rfl rfl rfl (v_ldr 1 rfl Try.underlying3 rfl rfl rfl rfl) ?_
  refine s_v rfl rfl rfl rfl (v_arith rfl rfl rfl rfl) ?_
  refine s_v rfl rfl rfl rfl (v_move rfl rfl) ?_
  rcases Bool.eq_false_or_eq_true (decide (((j : Int) : Int) ≤ C)) with h1_ | h1_
  ·
    refine s_splitv (d := 15) (t := decide (((j : Int) : Int) ≤ C)) rfl (fun _ => ?_) (fun h2_ => absurd (h2_.symm.trans h1_) (by decide))
    refine s_vg rfl rfl rfl rfl (v_ldAr [.int .i64 T, .int .i64 S, .int .i64 C, .int .i64 H, .int .i64 K, .int .i64 V, .int .i64 L, .slice A l.length c] 1 rfl Try.underlying63 rfl SZ63 rfl rfl rfl rfl) ?_
    refine s_vg rfl rfl rfl rfl (v_move rfl rfl) ?_
    refine s_eg rfl rfl (e_callF [3] #[.agg #[.int .i64 T, .int .i64 S, .int .i64 C, .int .i64 H, .int .i64 K, .int .i64 V, .int .i64 L, .slice A l.length c], .int .u64 x] rfl rfl rfl rfl rfl Try.func49 rfl (by decide) rfl rfl rfl rfl (fun w ht => shape_words_names_con T S C H K V L A c l x (nm x) (hnm x) w _)) ?_
    refine s_v rfl rfl rfl rfl (v_pick rfl rfl rfl rfl) ?_
    refine s_end ?_
    refine q_seq ?_
    rcases Bool.eq_false_or_eq_true (nm x) with h3_ | h3_
    ·
      refine c_cond rfl rfl (fun _ => ?_) (fun h4_ => absurd (h4_.symm.trans h3_) (by decide))
      refine c_skip rfl ?_
      refine q_seq ?_
      refine c_seq rfl ?_
      refine c_block rfl ?_
      refine c_seq rfl ?_
      refine c_seq rfl ?_
      refine r_ordI (l := [0, 1, 2, 3, 4, 5]) rfl (by kernel_rfl) ?_
      refine si_v rfl rfl (by kernel_rfl) rfl rfl (v_move rfl rfl) ?_
      refine si_v rfl rfl (by kernel_rfl) rfl rfl (v_move rfl rfl) ?_
      refine si_v rfl rfl (by kernel_rfl) rfl rfl (v_move rfl rfl) ?_
      refine si_e rfl rfl (by kernel_rfl) (e_callF [] #[.int .u64 x] rfl rfl rfl rfl rfl Try.func58 rfl (by decide) rfl rfl rfl rfl (fun w ht => handle_Plain_con x (pl x) (hpl x) w _)) ?_
      have hjC : (j : Int) ≤ C := of_decide_eq_true h1_
      obtain ⟨m_, hm_⟩ : ∃ m_, N - j = m_ + 1 := ⟨N - j - 1, by omega⟩
      have hcons : (ylF C nm pl nx N 0 x0).drop j = ((j : Int), pl x) :: ylF C nm pl nx m_ ((j : Int) + 1) (nx x) := by rw [hd, hm_, ylF, if_pos hjC, if_pos h3_]
      have hlt : j < (ylF C nm pl nx N 0 x0).length := by
        have := congrArg List.length hcons
        simp only [List.length_drop, List.length_cons] at this
        omega
      have hget : (ylF C nm pl nx N 0 x0)[j]? = some ((j : Int), pl x) := by have := congrArg List.head? hcons; simpa using this
      obtain ⟨a_, ha_, htk⟩ := attach_step hget
      have hd2 : (ylF C nm pl nx N 0 x0).drop (j + 1) = ylF C nm pl nx (N - (j + 1)) ((j + 1 : Nat) : Int) (nx x) := by
        have := congrArg List.tail hcons
        simp only [List.tail_drop, List.tail_cons] at this
        rw [this, show N - (j + 1) = m_ by omega]
        rfl
      have hjN2 : j + 1 ≤ N := by omega
      have hjw : IntKind.wrap .i64 ((j : Int) + 1) = ((j + 1 : Nat) : Int) := by rw [wi64 (by omega) (by omega)]; rfl
      refine si_yield (ly := ly) (L1 := [.f (fun W_ => J ((ylF C nm pl nx N 0 x0).attach.take (j + 1)) W_ ∧ KG w.heap.size G w W_ ∧ W.heap.size ≤ W_.heap.size), .f (fun w => w.heap[bw]? = some (.cells #[.int .i64 T, .int .i64 S, .int .i64 C, .int .i64 H, .int .i64 K, .int .i64 V, .int .i64 L, .slice A l.length c] 63 (0, 0))), .f (fun w => w.heap[bk]? = some (.cells #[.int .i64 lev] 3 (0, 0))), .f (KC (Kd.int .u64) A c l)]) (L0 := [.f (Jx ((ylF C nm pl nx N 0 x0).attach.take (j + 1)))]) rfl rfl rfl rfl rfl rfl rfl rfl ?_ ?_ ?_
      · intro w1 ht1
        exact hyield j x a_ ha_ w1 ht1 hlt htk
      ·
        refine si_v rfl rfl (by kernel_rfl) rfl rfl (v_not rfl rfl) ?_
        refine si_end ?_
        refine q_seq ?_
        refine c_cond0 rfl rfl ?_
        refine c_skip rfl ?_
        refine q_seq ?_
        refine r_any [.f (fun W_ => J ((ylF C nm pl nx N 0 x0).attach.take (j + 1)) W_ ∧ KG w.heap.size G w W_ ∧ W.heap.size ≤ W_.heap.size), .f (fun w => w.heap[bw]? = some (.cells #[.int .i64 T, .int .i64 S, .int .i64 C, .int .i64 H, .int .i64 K, .int .i64 V, .int .i64 L, .slice A l.length c] 63 (0, 0))), .f (fun w => w.heap[bk]? = some (.cells #[.int .i64 lev] 3 (0, 0))), .f (KC (Kd.int .u64) A c l)] (by kernel_rfl) rfl (by kernel_rfl) (mem_pick (idx := [0, 1, 2, 3]) rfl) ?_
        refine a_v 0 rfl (by kernel_rfl) (by kernel_rfl) (by kernel_rfl) rfl rfl rfl (v_ldAr [.int .i64 T, .int .i64 S, .int .i64 C, .int .i64 H, .int .i64 K, .int .i64 V, .int .i64 L, .slice A l.length c] 1 rfl Try.underlying63 rfl SZ63 rfl rfl rfl rfl) ?_
        refine a_v 1 rfl (by kernel_rfl) (by kernel_rfl) (by kernel_rfl) rfl rfl rfl (v_move rfl rfl) ?_
        refine a_v 3 rfl (by kernel_rfl) (by kernel_rfl) (by kernel_rfl) rfl rfl rfl (v_ldr 2 rfl Try.underlying3 rfl rfl rfl rfl) ?_
        refine a_v 4 rfl (by kernel_rfl) (by kernel_rfl) (by kernel_rfl) rfl rfl rfl (v_arith rfl rfl rfl rfl) ?_
        refine a_1 (i := 2) (by kernel_rfl) ?_
        refine i_e rfl rfl (e_callF [] #[.int .u64 x] rfl rfl rfl rfl rfl Try.func27 rfl (by decide) rfl rfl rfl rfl (fun w ht => handle_Index_con x w _)) ?_
        refine ⟨(mem_pick (idx := [0, 1, 2, 3]) rfl), ?_⟩
        refine a_1 (i := 5) (by kernel_rfl) ?_
        refine i_e rfl rfl (e_callF [3] #[.agg #[.int .i64 T, .int .i64 S, .int .i64 C, .int .i64 H, .int .i64 K, .int .i64 V, .int .i64 L, .slice A l.length c], .int .i64 (x % 4294967296), .int .i64 (IntKind.wrap .i64 (6 + lev))] rfl rfl rfl rfl rfl Try.func28 rfl (by decide) rfl rfl rfl rfl (fun w ht => shape_words_at_con T S C H K V L A c l (x % 4294967296) (IntKind.wrap .i64 (6 + lev)) (nx x) (hnx x h3_) w _)) ?_
        refine ⟨(mem_pick (idx := [0, 1, 2, 3]) rfl), ?_⟩
        refine a_v 6 rfl (by kernel_rfl) (by kernel_rfl) (by kernel_rfl) rfl rfl rfl (v_assign rfl rfl) ?_
        refine a_end (by kernel_rfl) ?_
        refine q_block ?_
        refine q_seq ?_
        refine r_ord (l := [0, 1, 2]) rfl (by kernel_rfl) (by kernel_rfl) ?_
        refine s_v rfl rfl rfl rfl (v_move rfl rfl) ?_
        refine s_v rfl rfl rfl rfl (v_arith rfl rfl rfl rfl) ?_
        refine s_v rfl rfl rfl rfl (v_assign rfl rfl) ?_
        refine s_end ?_
        exact q_again (j + 1, nx x) [0, 1, 2, 3] ⟨hlt, hd2, hjN2⟩ (show (ylF C nm pl nx N 0 x0).length - (j + 1) < (ylF C nm pl nx N 0 x0).length - j by omega) (subF_spec ⟨rfl, rfl, rfl, rfl, congrArg some (congrArg (Value.int .i64) hjw), trivial⟩) rfl (by decide)
      ·
        intro w_
        refine si_v rfl rfl (by kernel_rfl) rfl rfl (v_not rfl rfl) ?_
        refine si_end ?_
        refine q_seq ?_
        refine c_cond1 rfl rfl ?_
        refine c_ret rfl ?_
        refine q_then_ret ?_
        refine q_block_ret ?_
        refine q_then_ret ?_
        refine q_then_ret ?_
        refine q_block_ret ?_
        refine q_all (fun a_ w_ hf_ ht_ => ?_)
        refine bodyPost_ret (results_none rfl _ _ _) hf_.defers ?_
        exact ⟨⟨_, rfl⟩, .inr ⟨_, List.take_prefix _ _, ht_.fact 0 rfl⟩⟩
    ·
      refine c_cond rfl rfl (fun h5_ => absurd (h5_.symm.trans h3_) (by decide)) (fun _ => ?_)
      refine c_exit (i := 0) rfl rfl ?_
      refine q_then_exit ?_
      refine q_then_exit ?_
      refine q_block_here rfl ?_
      have hend : (ylF C nm pl nx N 0 x0).drop j = [] := by
        rw [hd]
        cases N - j with
        | zero => rfl
        | succ m_ => rw [ylF, if_pos (of_decide_eq_true h1_), if_neg (by rw [h3_]; decide)]
      have hjl : (ylF C nm pl nx N 0 x0).length ≤ j := List.drop_eq_nil_iff.1 hend
      refine q_all (fun a_ w_ hf_ ht_ => ?_)
      have h1 := (ht_.fact 0 rfl : J ((ylF C nm pl nx N 0 x0).attach.take j) w_ ∧ _).1
      rw [List.take_of_length_le (by rw [List.length_attach]; exact hjl)] at h1
      refine ⟨hf_.defers, _, results_none rfl _ _ _, ?_⟩
      exact ⟨⟨_, rfl⟩, .inl ⟨_, rfl, h1⟩⟩
  ·
    refine s_splitv (d := 15) (t := decide (((j : Int) : Int) ≤ C)) rfl (fun h6_ => absurd (h6_.symm.trans h1_) (by decide)) (fun _ => ?_)
    refine s_no rfl rfl rfl rfl ?_
    refine s_no rfl rfl rfl rfl ?_
    refine s_no rfl rfl rfl rfl ?_
    refine s_v rfl rfl rfl rfl (v_pick rfl rfl rfl rfl) ?_
    refine s_end ?_
    refine q_seq ?_
    refine c_cond0 rfl rfl ?_
    refine c_exit (i := 0) rfl rfl ?_
    refine q_then_exit ?_
    refine q_then_exit ?_
    refine q_block_here rfl ?_
    have hend : (ylF C nm pl nx N 0 x0).drop j = [] := by
      rw [hd]
      cases N - j with
      | zero => rfl
      | succ m_ => rw [ylF, if_neg (of_decide_eq_false h1_)]
    have hjl : (ylF C nm pl nx N 0 x0).length ≤ j := List.drop_eq_nil_iff.1 hend
    refine q_all (fun a_ w_ hf_ ht_ => ?_)
    have h1 := (ht_.fact 0 rfl : J ((ylF C nm pl nx N 0 x0).attach.take j) w_ ∧ _).1
    rw [List.take_of_length_le (by rw [List.length_attach]; exact hjl)] at h1
    refine ⟨hf_.defers, _, results_none rfl _ _ _, ?_⟩
    exact ⟨⟨_, rfl⟩, .inl ⟨_, rfl, h1⟩⟩
end Go.Eng
