/-
Own text, put together by an own program (shake.py) out of this claim's texts: what its theorem needs of them.
-/
import Derived.Test.YtiihjijmmephlaaA3
namespace Go.Eng
open Go.Proofs Go.RowKit Go.Proofs.YtiihjijmmephlaaW.PrintWords
set_option linter.unusedVariables false
set_option linter.unusedSimpArgs false
def SymC (sz : Nat) : Prop := ∀ (g n cap : Nat) (xs : List Int) (rest : List Value) (bl nl : Nat) (key : Int → Int) (Φ : World → Prop) (hcmp : ∀ (x y : Int) (w : World) (H : List Nat), 0 ≤ x → x < nl → 0 ≤ y → y < nl → Con Try.prog 27 #[.int .i64 x, .int .i64 y, .pointer (some ⟨bl, 0, none⟩)] w H [.f Φ] (fun X => X (.int .i64 (cmp3 (key x) (key y))) [])) (hD : ∀ x ∈ xs, 0 ≤ x ∧ x < (nl : Int)) (a m b : Nat) (hn : xs.length = n) (hN : n ≤ 1000000) (h3 : b ≤ n) (hm : Mg key xs a m b) (hsz : b - a ≤ sz) (w0 : World) (H : List Nat), Con Try.prog 67 #[.slice (some ⟨g, 0, none⟩) n cap, .int .i64 ((a : Nat) : Int), .int .i64 ((m : Nat) : Int), .int .i64 ((b : Nat) : Int), (.func (.func 27) #[] #[.pointer (some ⟨bl, 0, none⟩)])] w0 H [.b g (.cells (RowI .i64 xs rest) 3 (0, 0)), .f Φ] (fun X => ∀ ys, Sd key a b xs ys → X (.tuple #[]) [.b g (.cells (RowI .i64 ys rest) 3 (0, 0))])
set_option maxRecDepth 100000 in
set_option maxHeartbeats 4000000 in
theorem sym_step (sz : Nat) (ih : SymC sz) (g n cap : Nat) (xs : List Int) (rest : List Value) (bl nl : Nat) (key : Int → Int) (Φ : World → Prop) (hcmp : ∀ (x y : Int) (w : World) (H : List Nat), 0 ≤ x → x < nl → 0 ≤ y → y < nl → Con Try.prog 27 #[.int .i64 x, .int .i64 y, .pointer (some ⟨bl, 0, none⟩)] w H [.f Φ] (fun X => X (.int .i64 (cmp3 (key x) (key y))) [])) (hD : ∀ x ∈ xs, 0 ≤ x ∧ x < (nl : Int)) (a m b : Nat) (hn : xs.length = n) (hN : n ≤ 1000000) (h3 : b ≤ n) (hm : Mg key xs a m b) (hsz : b - a ≤ sz + 1) (w0 : World) (H : List Nat) : Con Try.prog 67 #[.slice (some ⟨g, 0, none⟩) n cap, .int .i64 ((a : Nat) : Int), .int .i64 ((m : Nat) : Int), .int .i64 ((b : Nat) : Int), (.func (.func 27) #[] #[.pointer (some ⟨bl, 0, none⟩)])] w0 H [.b g (.cells (RowI .i64 xs rest) 3 (0, 0)), .f Φ] (fun X => ∀ ys, Sd key a b xs ys → X (.tuple #[]) [.b g (.cells (RowI .i64 ys rest) 3 (0, 0))]) := by
 refine con_enter (c := bodyOf Try.f67) Try.func67 rfl (m := 220) rfl rfl rfl ?_
 intro X hX _
 have hDg : ∀ (ys : List Int), ys.Perm xs → ∀ p, p < ys.length → 0 ≤ gt ys p ∧ gt ys p < (nl : Int) := fun ys hp p hl => by rw [gt_eq hl]; exact hD _ (hp.mem_iff.1 (List.getElem_mem hl))
 have h_am := hm.am
 have h_mb := hm.mb
 refine c_seq rfl ?_
 refine c_seq rfl ?_
 refine r_ord (l := [0, 1, 2, 3]) rfl (by kernel_rfl) (by kernel_rfl) ?_
 refine s_v rfl rfl rfl rfl (v_mv rfl rfl) ?_
 refine s_v rfl rfl rfl rfl (v_mv rfl rfl) ?_
 refine s_v rfl rfl rfl rfl (OpV.cast (v := .int .i64 ((m - a : Nat) : Int)) (v_ar rfl rfl rfl rfl) (subN (a := m) (b := a) (by first | omega | (simp [swr_len, swp_len] <;> omega)) (by first | omega | (simp [swr_len, swp_len] <;> omega)))) ?_
 refine s_v rfl rfl rfl rfl (v_ar rfl rfl rfl rfl) ?_
 refine s_end ?_
 refine q_seq ?_
 refine c_cond (t := (((m - a : Nat) : Int) : Int) == 1) rfl rfl (fun h1_ => ?_) (fun h1_ => ?_)
 have h1_d : ((m - a : Nat) : Int) = 1 := by simpa using h1_
 refine c_seq rfl ?_
 refine r_ord (l := [0, 1]) rfl (by kernel_rfl) (by kernel_rfl) ?_
 refine s_v rfl rfl rfl rfl (v_mv rfl rfl) ?_
 refine s_v rfl rfl rfl rfl (v_as rfl rfl) ?_
 refine s_end ?_
 refine q_seq ?_
 refine c_seq rfl ?_
 refine r_ord (l := [0, 1]) rfl (by kernel_rfl) (by kernel_rfl) ?_
 refine s_v rfl rfl rfl rfl (v_mv rfl rfl) ?_
 refine s_v rfl rfl rfl rfl (v_as rfl rfl) ?_
 refine s_end ?_
 refine q_seq ?_
 refine c_seq rfl ?_
 refine c_block rfl ?_
 refine c_loop (σ := (Nat × Nat)) (fun s : Nat × Nat => match s with | (i, j) => BsA key xs a m b i j) (fun s : Nat × Nat => match s with | (i, j) => j - i) (fun s : Nat × Nat => match s with | (i, j) => [(0, .slice (some ⟨g, 0, none⟩) n cap), (1, .int .i64 (a : Int)), (2, .int .i64 (m : Int)), (3, .int .i64 (b : Int)), (4, .func (.func 27) #[] #[.pointer (some ⟨bl, 0, none⟩)]), (10, .int .i64 (i : Int)), (11, .int .i64 (j : Int))]) (fun s : Nat × Nat => match s with | (i, j) => [.b g (.cells (RowI .i64 xs rest) 3 (0, 0)), .f (Φ)]) (m, b) [0, 1] rfl (BsA.start (by omega)) (subF_spec ⟨rfl, rfl, rfl, rfl, rfl, rfl, rfl, trivial⟩) rfl (by decide) ?_
 rintro ⟨i, j⟩ hs
 have hs : BsA key xs a m b i j := hs
 have h_1 := hs.mi
 have h_2 := hs.ij
 have h_3 := hs.jb
 refine c_seq rfl ?_
 refine c_seq rfl ?_
 refine r_ord (l := [0, 1, 2]) rfl (by kernel_rfl) (by kernel_rfl) ?_
 refine s_v rfl rfl rfl rfl (v_mv rfl rfl) ?_
 refine s_v rfl rfl rfl rfl (v_mv rfl rfl) ?_
 refine s_v rfl rfl rfl rfl (v_ar rfl rfl rfl rfl) ?_
 refine s_end ?_
 refine q_seq ?_
 refine c_cond (t := decide (((i : Int) : Int) < (j : Int))) rfl rfl (fun h2_ => ?_) (fun h2_ => ?_)
 have h2_d := of_decide_eq_true h2_
 refine c_skip rfl ?_
 refine q_seq ?_
 refine c_block rfl ?_
 refine c_seq rfl ?_
 refine r_ord (l := [0, 1, 2, 3, 4, 5, 6]) rfl (by kernel_rfl) (by kernel_rfl) ?_
 refine s_v rfl rfl rfl rfl (v_mv rfl rfl) ?_
 refine s_v rfl rfl rfl rfl (v_mv rfl rfl) ?_
 refine s_v rfl rfl rfl rfl (OpV.cast (v := .int .i64 ((i + j : Nat) : Int)) (v_ar rfl rfl rfl rfl) (addN (a := i) (b := j) (by first | omega | (simp [swr_len, swp_len] <;> omega)))) ?_
 refine s_v rfl rfl rfl rfl (OpV.cast (v := .int .u64 ((i + j : Nat) : Int)) (v_conv rfl Try.underlying3 Try.underlying101 rfl) (cuN (a := i + j) (by first | omega | (simp [swr_len, swp_len] <;> omega)))) ?_
 refine s_v rfl rfl rfl rfl (OpV.cast (v := .int .u64 (((i + j) / 2 : Nat) : Int)) (v_shr rfl rfl rfl (by omega)) (shN (a := i + j))) ?_
 refine s_v rfl rfl rfl rfl (OpV.cast (v := .int .i64 (((i + j) / 2 : Nat) : Int)) (v_conv rfl Try.underlying101 Try.underlying3 rfl) (ciN (a := (i + j) / 2) (by first | omega | (simp [swr_len, swp_len] <;> omega)))) ?_
 refine s_v rfl rfl rfl rfl (v_as rfl rfl) ?_
 refine s_end ?_
 refine q_seq ?_
 refine c_seq rfl ?_
 refine r_any [.b g (.cells (RowI .i64 xs rest) 3 (0, 0)), .f (Φ)] (by kernel_rfl) rfl (by kernel_rfl) (mem_pick (idx := [0, 1]) rfl) ?_
 refine a_v 0 rfl (by kernel_rfl) (by kernel_rfl) (by kernel_rfl) rfl rfl rfl (v_mv rfl rfl) ?_
 refine a_v 1 rfl (by kernel_rfl) (by kernel_rfl) (by kernel_rfl) rfl rfl rfl (v_mv rfl rfl) ?_
 refine a_v 2 rfl (by kernel_rfl) (by kernel_rfl) (by kernel_rfl) rfl rfl rfl (v_mv rfl rfl) ?_
 refine a_v 3 rfl (by kernel_rfl) (by kernel_rfl) (by kernel_rfl) rfl rfl rfl (v_iaO (j := (i + j) / 2) rfl Try.underlying25 SZ3 rfl rfl (by first | omega | (simp [swr_len, swp_len] <;> omega))) ?_
 refine a_v 4 rfl (by kernel_rfl) (by kernel_rfl) (by kernel_rfl) rfl rfl rfl (v_ldO (v := gt xs ((i + j) / 2)) 0 rfl Try.underlying3 rfl rfl rfl (by first | omega | (simp [swr_len, swp_len] <;> omega)) (gt_eq (by first | omega | (simp [swr_len, swp_len] <;> omega))).symm) ?_
 refine a_v 5 rfl (by kernel_rfl) (by kernel_rfl) (by kernel_rfl) rfl rfl rfl (v_mv rfl rfl) ?_
 refine a_v 6 rfl (by kernel_rfl) (by kernel_rfl) (by kernel_rfl) rfl rfl rfl (v_mv rfl rfl) ?_
 refine a_v 7 rfl (by kernel_rfl) (by kernel_rfl) (by kernel_rfl) rfl rfl rfl (v_iaO (j := a) rfl Try.underlying25 SZ3 rfl rfl (by first | omega | (simp [swr_len, swp_len] <;> omega))) ?_
 refine a_v 8 rfl (by kernel_rfl) (by kernel_rfl) (by kernel_rfl) rfl rfl rfl (v_ldO (v := gt xs a) 0 rfl Try.underlying3 rfl rfl rfl (by first | omega | (simp [swr_len, swp_len] <;> omega)) (gt_eq (by first | omega | (simp [swr_len, swp_len] <;> omega))).symm) ?_
 refine a_1 (i := 9) (by kernel_rfl) ?_
 refine i_e rfl rfl (e_callF [1] #[.int .i64 (gt xs ((i + j) / 2)), .int .i64 (gt xs a), .pointer (some ⟨bl, 0, none⟩)] rfl rfl rfl rfl rfl Try.func27 rfl (by decide) rfl rfl rfl rfl (fun w ht => hcmp _ _ w _ (hDg xs (List.Perm.refl _) ((i + j) / 2) (by first | omega | (simp [swr_len, swp_len] <;> omega))).1 (hDg xs (List.Perm.refl _) ((i + j) / 2) (by first | omega | (simp [swr_len, swp_len] <;> omega))).2 (hDg xs (List.Perm.refl _) a (by first | omega | (simp [swr_len, swp_len] <;> omega))).1 (hDg xs (List.Perm.refl _) a (by first | omega | (simp [swr_len, swp_len] <;> omega))).2)) ?_
 refine ⟨(mem_pick (idx := [0, 1]) rfl), ?_⟩
 refine a_v 10 rfl (by kernel_rfl) (by kernel_rfl) (by kernel_rfl) rfl rfl rfl (v_ar rfl rfl rfl rfl) ?_
 refine a_end (by kernel_rfl) ?_
 refine q_seq ?_
 refine c_cond (t := decide ((cmp3 (key (gt xs ((i + j) / 2))) (key (gt xs a)) : Int) < 0)) rfl rfl (fun h3_ => ?_) (fun h3_ => ?_)
 have h3_d := of_decide_eq_true h3_
 have hck := cmp3_lt.1 h3_d
 refine r_ord (l := [0, 1, 2]) rfl (by kernel_rfl) (by kernel_rfl) ?_
 refine s_v rfl rfl rfl rfl (v_mv rfl rfl) ?_
 refine s_v rfl rfl rfl rfl (OpV.cast (v := .int .i64 ((((i + j) / 2) + 1 : Nat) : Int)) (v_ar rfl rfl rfl rfl) (addN (a := (i + j) / 2) (b := 1) (by first | omega | (simp [swr_len, swp_len] <;> omega)))) ?_
 refine s_v rfl rfl rfl rfl (v_as rfl rfl) ?_
 refine s_end ?_
 refine q_block ?_
 exact q_again ((i + j) / 2 + 1, j) [0, 1] (hs.yes hm.r (by omega) hck) (by dsimp only; omega) (subF_spec ⟨rfl, rfl, rfl, rfl, rfl, rfl, rfl, trivial⟩) rfl (by decide)
 have h3_d := of_decide_eq_false h3_
 have hck := fun h => h3_d (cmp3_lt.2 h)
 refine r_ord (l := [0, 1]) rfl (by kernel_rfl) (by kernel_rfl) ?_
 refine s_v rfl rfl rfl rfl (v_mv rfl rfl) ?_
 refine s_v rfl rfl rfl rfl (v_as rfl rfl) ?_
 refine s_end ?_
 refine q_block ?_
 exact q_again (i, (i + j) / 2) [0, 1] (hs.no hm.r (by omega) hck) (by dsimp only; omega) (subF_spec ⟨rfl, rfl, rfl, rfl, rfl, rfl, rfl, trivial⟩) rfl (by decide)
 have h2_d := of_decide_eq_false h2_
 refine c_exit (i := 0) rfl rfl ?_
 refine q_then_exit ?_
 refine q_then_exit ?_
 refine q_block_here rfl ?_
 refine q_seq ?_
 refine c_seq rfl ?_
 refine c_seq rfl ?_
 refine r_ord (l := [0, 1]) rfl (by kernel_rfl) (by kernel_rfl) ?_
 refine s_v rfl rfl rfl rfl (v_mv rfl rfl) ?_
 refine s_v rfl rfl rfl rfl (v_as rfl rfl) ?_
 refine s_end ?_
 refine q_seq ?_
 refine c_block rfl ?_
 obtain rfl : i = j := by omega
 have hbs := hs
 refine c_loop (σ := (Nat × List Int)) (fun s : (Nat × List Int) => match s with | (k, ys) => MvR xs a k ys ∧ k ≤ i - 1) (fun s : (Nat × List Int) => match s with | (k, ys) => i - 1 - k) (fun s : (Nat × List Int) => match s with | (k, ys) => [(0, .slice (some ⟨g, 0, none⟩) n cap), (1, .int .i64 (a : Int)), (2, .int .i64 (m : Int)), (3, .int .i64 (b : Int)), (4, .func (.func 27) #[] #[.pointer (some ⟨bl, 0, none⟩)]), (10, .int .i64 (i : Int)), (13, .int .i64 (k : Int))]) (fun s : (Nat × List Int) => match s with | (k, ys) => [.b g (.cells (RowI .i64 ys rest) 3 (0, 0)), .f (Φ)]) (a, xs) [0, 1] rfl ⟨MvR.start xs a, by omega⟩ (subF_spec ⟨rfl, rfl, rfl, rfl, rfl, rfl, rfl, trivial⟩) rfl (by decide) ?_
 rintro ⟨k, ys⟩ hs
 have hk : MvR xs a k ys ∧ k ≤ i - 1 := hs
 have hly : ys.length = n := hk.1.len.trans hn
 have h_k := hk.1.ak
 have h_k2 := hk.2
 refine c_seq rfl ?_
 refine c_seq rfl ?_
 refine r_ord (l := [0, 1, 2, 3]) rfl (by kernel_rfl) (by kernel_rfl) ?_
 refine s_v rfl rfl rfl rfl (v_mv rfl rfl) ?_
 refine s_v rfl rfl rfl rfl (v_mv rfl rfl) ?_
 refine s_v rfl rfl rfl rfl (OpV.cast (v := .int .i64 ((i - 1 : Nat) : Int)) (v_ar rfl rfl rfl rfl) (subN (a := i) (b := 1) (by first | omega | (simp [swr_len, swp_len] <;> omega)) (by first | omega | (simp [swr_len, swp_len] <;> omega)))) ?_
 refine s_v rfl rfl rfl rfl (v_ar rfl rfl rfl rfl) ?_
 refine s_end ?_
 refine q_seq ?_
 refine c_cond (t := decide (((k : Int) : Int) < ((i - 1 : Nat) : Int))) rfl rfl (fun h4_ => ?_) (fun h4_ => ?_)
 have h4_d := of_decide_eq_true h4_
 refine c_skip rfl ?_
 refine q_seq ?_
 refine c_seq rfl ?_
 refine c_block rfl ?_
 refine r_any [.f (Φ)] (by kernel_rfl) rfl (by kernel_rfl) (mem_pick (idx := [1]) rfl) ?_
 refine a_v 0 rfl (by kernel_rfl) (by kernel_rfl) (by kernel_rfl) rfl rfl rfl (v_mv rfl rfl) ?_
 refine a_v 1 rfl (by kernel_rfl) (by kernel_rfl) (by kernel_rfl) rfl rfl rfl (v_mv rfl rfl) ?_
 refine a_v 2 rfl (by kernel_rfl) (by kernel_rfl) (by kernel_rfl) rfl rfl rfl (v_mv rfl rfl) ?_
 refine a_v 3 rfl (by kernel_rfl) (by kernel_rfl) (by kernel_rfl) rfl rfl rfl (v_mv rfl rfl) ?_
 refine a_v 4 rfl (by kernel_rfl) (by kernel_rfl) (by kernel_rfl) rfl rfl rfl (OpV.cast (v := .int .i64 ((k + 1 : Nat) : Int)) (v_ar rfl rfl rfl rfl) (addN (a := k) (b := 1) (by first | omega | (simp [swr_len, swp_len] <;> omega)))) ?_
 refine a_v 5 rfl (by kernel_rfl) (by kernel_rfl) (by kernel_rfl) rfl rfl rfl (v_mv rfl rfl) ?_
 refine a_v 6 rfl (by kernel_rfl) (by kernel_rfl) (by kernel_rfl) rfl rfl rfl (v_mv rfl rfl) ?_
 refine a_v 7 rfl (by kernel_rfl) (by kernel_rfl) (by kernel_rfl) rfl rfl rfl (OpV.cast (v := .int .i64 ((k + 1 : Nat) : Int)) (v_ar rfl rfl rfl rfl) (addN (a := k) (b := 1) (by first | omega | (simp [swr_len, swp_len] <;> omega)))) ?_
 refine a_v 8 rfl (by kernel_rfl) (by kernel_rfl) (by kernel_rfl) rfl rfl rfl (v_iaO (j := k + 1) rfl Try.underlying25 SZ3 rfl rfl (by first | omega | (simp [swr_len, swp_len] <;> omega))) ?_
 refine a_v 10 rfl (by kernel_rfl) (by kernel_rfl) (by kernel_rfl) rfl rfl rfl (v_mv rfl rfl) ?_
 refine a_v 11 rfl (by kernel_rfl) (by kernel_rfl) (by kernel_rfl) rfl rfl rfl (v_mv rfl rfl) ?_
 refine a_v 12 rfl (by kernel_rfl) (by kernel_rfl) (by kernel_rfl) rfl rfl rfl (v_iaO (j := k) rfl Try.underlying25 SZ3 rfl rfl (by first | omega | (simp [swr_len, swp_len] <;> omega))) ?_
 refine a_2 (i := 9) (j := 13) (by kernel_rfl) ?_ ?_
 refine i_v rfl rfl rfl rfl (v_ldO (v := gt ys (k + 1)) 0 rfl Try.underlying3 rfl rfl rfl (by first | omega | (simp [swr_len, swp_len] <;> omega)) (gt_eq (by first | omega | (simp [swr_len, swp_len] <;> omega))).symm) ?_
 refine a_1 (i := 13) (by kernel_rfl) ?_
 refine i_v rfl rfl rfl rfl (v_ldO (v := gt ys k) 0 rfl Try.underlying3 rfl rfl rfl (by first | omega | (simp [swr_len, swp_len] <;> omega)) (gt_eq (by first | omega | (simp [swr_len, swp_len] <;> omega))).symm) ?_
 refine a_v 14 rfl (by kernel_rfl) (by kernel_rfl) (by kernel_rfl) rfl rfl rfl (v_iaO (j := k) rfl Try.underlying25 SZ3 rfl rfl (by first | omega | (simp [swr_len, swp_len] <;> omega))) ?_
 refine a_1 (i := 15) (by kernel_rfl) ?_
 refine i_e rfl rfl (e_stO 0 rfl rfl SZ3 rfl rfl rfl (by first | omega | (simp [swr_len, swp_len] <;> omega))) ?_
 refine ⟨(mem_pick (idx := [1]) rfl), ?_⟩
 refine a_v 16 rfl (by kernel_rfl) (by kernel_rfl) (by kernel_rfl) rfl rfl rfl (v_iaO (j := k + 1) rfl Try.underlying25 SZ3 rfl rfl (by first | omega | (simp [swr_len, swp_len] <;> omega))) ?_
 refine a_1 (i := 17) (by kernel_rfl) ?_
 refine i_e rfl rfl (e_stO 0 rfl rfl SZ3 rfl rfl rfl (by first | omega | (simp [swr_len, swp_len] <;> omega))) ?_
 refine ⟨(mem_pick (idx := [1]) rfl), ?_⟩
 refine a_end (by kernel_rfl) ?_
 refine q_block ?_
 refine q_seq ?_
 refine r_ord (l := [0, 1, 2]) rfl (by kernel_rfl) (by kernel_rfl) ?_
 refine s_v rfl rfl rfl rfl (v_mv rfl rfl) ?_
 refine s_v rfl rfl rfl rfl (OpV.cast (v := .int .i64 ((k + 1 : Nat) : Int)) (v_ar rfl rfl rfl rfl) (addN (a := k) (b := 1) (by first | omega | (simp [swr_len, swp_len] <;> omega)))) ?_
 refine s_v rfl rfl rfl rfl (v_as rfl rfl) ?_
 refine s_end ?_
 exact q_again (k + 1, swp ys k (k + 1)) [0, 1] ⟨hk.1.step (by omega), by omega⟩ (by dsimp only; omega) (subF_spec ⟨rfl, rfl, rfl, rfl, rfl, rfl, rfl, trivial⟩) rfl (by decide)
 refine i_v rfl rfl rfl rfl (v_ldO (v := gt ys k) 0 rfl Try.underlying3 rfl rfl rfl (by first | omega | (simp [swr_len, swp_len] <;> omega)) (gt_eq (by first | omega | (simp [swr_len, swp_len] <;> omega))).symm) ?_
 refine a_1 (i := 9) (by kernel_rfl) ?_
 refine i_v rfl rfl rfl rfl (v_ldO (v := gt ys (k + 1)) 0 rfl Try.underlying3 rfl rfl rfl (by first | omega | (simp [swr_len, swp_len] <;> omega)) (gt_eq (by first | omega | (simp [swr_len, swp_len] <;> omega))).symm) ?_
 refine a_v 14 rfl (by kernel_rfl) (by kernel_rfl) (by kernel_rfl) rfl rfl rfl (v_iaO (j := k) rfl Try.underlying25 SZ3 rfl rfl (by first | omega | (simp [swr_len, swp_len] <;> omega))) ?_
 refine a_1 (i := 15) (by kernel_rfl) ?_
 refine i_e rfl rfl (e_stO 0 rfl rfl SZ3 rfl rfl rfl (by first | omega | (simp [swr_len, swp_len] <;> omega))) ?_
 refine ⟨(mem_pick (idx := [1]) rfl), ?_⟩
 refine a_v 16 rfl (by kernel_rfl) (by kernel_rfl) (by kernel_rfl) rfl rfl rfl (v_iaO (j := k + 1) rfl Try.underlying25 SZ3 rfl rfl (by first | omega | (simp [swr_len, swp_len] <;> omega))) ?_
 refine a_1 (i := 17) (by kernel_rfl) ?_
 refine i_e rfl rfl (e_stO 0 rfl rfl SZ3 rfl rfl rfl (by first | omega | (simp [swr_len, swp_len] <;> omega))) ?_
 refine ⟨(mem_pick (idx := [1]) rfl), ?_⟩
 refine a_end (by kernel_rfl) ?_
 refine q_block ?_
 refine q_seq ?_
 refine r_ord (l := [0, 1, 2]) rfl (by kernel_rfl) (by kernel_rfl) ?_
 refine s_v rfl rfl rfl rfl (v_mv rfl rfl) ?_
 refine s_v rfl rfl rfl rfl (OpV.cast (v := .int .i64 ((k + 1 : Nat) : Int)) (v_ar rfl rfl rfl rfl) (addN (a := k) (b := 1) (by first | omega | (simp [swr_len, swp_len] <;> omega)))) ?_
 refine s_v rfl rfl rfl rfl (v_as rfl rfl) ?_
 refine s_end ?_
 exact q_again (k + 1, swp ys k (k + 1)) [0, 1] ⟨hk.1.step (by omega), by omega⟩ (by dsimp only; omega) (subF_spec ⟨rfl, rfl, rfl, rfl, rfl, rfl, rfl, trivial⟩) rfl (by decide)
 have h4_d := of_decide_eq_false h4_
 obtain rfl : k = i - 1 := by omega
 refine c_exit (i := 2) rfl rfl ?_
 refine q_then_exit ?_
 refine q_then_exit ?_
 refine q_block_here rfl ?_
 refine q_seq ?_
 refine c_ret rfl ?_
 refine q_then_ret ?_
 refine q_take [0] rfl (by decide) ?_
 exact q_post rfl .nil (hX _ (MvR.done hm (by omega) hbs hk.1))
 have h1_d : ((m - a : Nat) : Int) ≠ 1 := by simpa using h1_
 refine c_skip rfl ?_
 refine q_seq ?_
 refine c_seq rfl ?_
 refine c_seq rfl ?_
 refine r_ord (l := [0, 1, 2, 3]) rfl (by kernel_rfl) (by kernel_rfl) ?_
 refine s_v rfl rfl rfl rfl (v_mv rfl rfl) ?_
 refine s_v rfl rfl rfl rfl (v_mv rfl rfl) ?_
 refine s_v rfl rfl rfl rfl (OpV.cast (v := .int .i64 ((b - m : Nat) : Int)) (v_ar rfl rfl rfl rfl) (subN (a := b) (b := m) (by first | omega | (simp [swr_len, swp_len] <;> omega)) (by first | omega | (simp [swr_len, swp_len] <;> omega)))) ?_
 refine s_v rfl rfl rfl rfl (v_ar rfl rfl rfl rfl) ?_
 refine s_end ?_
 refine q_seq ?_
 refine c_cond (t := (((b - m : Nat) : Int) : Int) == 1) rfl rfl (fun h5_ => ?_) (fun h5_ => ?_)
 have h5_d : ((b - m : Nat) : Int) = 1 := by simpa using h5_
 refine c_seq rfl ?_
 refine r_ord (l := [0, 1]) rfl (by kernel_rfl) (by kernel_rfl) ?_
 refine s_v rfl rfl rfl rfl (v_mv rfl rfl) ?_
 refine s_v rfl rfl rfl rfl (v_as rfl rfl) ?_
 refine s_end ?_
 refine q_seq ?_
 refine c_seq rfl ?_
 refine r_ord (l := [0, 1]) rfl (by kernel_rfl) (by kernel_rfl) ?_
 refine s_v rfl rfl rfl rfl (v_mv rfl rfl) ?_
 refine s_v rfl rfl rfl rfl (v_as rfl rfl) ?_
 refine s_end ?_
 refine q_seq ?_
 refine c_seq rfl ?_
 refine c_block rfl ?_
 refine c_loop (σ := (Nat × Nat)) (fun s : Nat × Nat => match s with | (i, j) => BsB key xs a m i j) (fun s : Nat × Nat => match s with | (i, j) => j - i) (fun s : Nat × Nat => match s with | (i, j) => [(0, .slice (some ⟨g, 0, none⟩) n cap), (1, .int .i64 (a : Int)), (2, .int .i64 (m : Int)), (3, .int .i64 (b : Int)), (4, .func (.func 27) #[] #[.pointer (some ⟨bl, 0, none⟩)]), (14, .int .i64 (i : Int)), (15, .int .i64 (j : Int))]) (fun s : Nat × Nat => match s with | (i, j) => [.b g (.cells (RowI .i64 xs rest) 3 (0, 0)), .f (Φ)]) (a, m) [0, 1] rfl (BsB.start (by omega)) (subF_spec ⟨rfl, rfl, rfl, rfl, rfl, rfl, rfl, trivial⟩) rfl (by decide) ?_
 rintro ⟨i, j⟩ hs
 have hs : BsB key xs a m i j := hs
 have h_1 := hs.ai
 have h_2 := hs.ij
 have h_3 := hs.jm
 refine c_seq rfl ?_
 refine c_seq rfl ?_
 refine r_ord (l := [0, 1, 2]) rfl (by kernel_rfl) (by kernel_rfl) ?_
 refine s_v rfl rfl rfl rfl (v_mv rfl rfl) ?_
 refine s_v rfl rfl rfl rfl (v_mv rfl rfl) ?_
 refine s_v rfl rfl rfl rfl (v_ar rfl rfl rfl rfl) ?_
 refine s_end ?_
 refine q_seq ?_
 refine c_cond (t := decide (((i : Int) : Int) < (j : Int))) rfl rfl (fun h6_ => ?_) (fun h6_ => ?_)
 have h6_d := of_decide_eq_true h6_
 refine c_skip rfl ?_
 refine q_seq ?_
 refine c_block rfl ?_
 refine c_seq rfl ?_
 refine r_ord (l := [0, 1, 2, 3, 4, 5, 6]) rfl (by kernel_rfl) (by kernel_rfl) ?_
 refine s_v rfl rfl rfl rfl (v_mv rfl rfl) ?_
 refine s_v rfl rfl rfl rfl (v_mv rfl rfl) ?_
 refine s_v rfl rfl rfl rfl (OpV.cast (v := .int .i64 ((i + j : Nat) : Int)) (v_ar rfl rfl rfl rfl) (addN (a := i) (b := j) (by first | omega | (simp [swr_len, swp_len] <;> omega)))) ?_
 refine s_v rfl rfl rfl rfl (OpV.cast (v := .int .u64 ((i + j : Nat) : Int)) (v_conv rfl Try.underlying3 Try.underlying101 rfl) (cuN (a := i + j) (by first | omega | (simp [swr_len, swp_len] <;> omega)))) ?_
 refine s_v rfl rfl rfl rfl (OpV.cast (v := .int .u64 (((i + j) / 2 : Nat) : Int)) (v_shr rfl rfl rfl (by omega)) (shN (a := i + j))) ?_
 refine s_v rfl rfl rfl rfl (OpV.cast (v := .int .i64 (((i + j) / 2 : Nat) : Int)) (v_conv rfl Try.underlying101 Try.underlying3 rfl) (ciN (a := (i + j) / 2) (by first | omega | (simp [swr_len, swp_len] <;> omega)))) ?_
 refine s_v rfl rfl rfl rfl (v_as rfl rfl) ?_
 refine s_end ?_
 refine q_seq ?_
 refine c_seq rfl ?_
 refine r_any [.b g (.cells (RowI .i64 xs rest) 3 (0, 0)), .f (Φ)] (by kernel_rfl) rfl (by kernel_rfl) (mem_pick (idx := [0, 1]) rfl) ?_
 refine a_v 0 rfl (by kernel_rfl) (by kernel_rfl) (by kernel_rfl) rfl rfl rfl (v_mv rfl rfl) ?_
 refine a_v 1 rfl (by kernel_rfl) (by kernel_rfl) (by kernel_rfl) rfl rfl rfl (v_mv rfl rfl) ?_
 refine a_v 2 rfl (by kernel_rfl) (by kernel_rfl) (by kernel_rfl) rfl rfl rfl (v_mv rfl rfl) ?_
 refine a_v 3 rfl (by kernel_rfl) (by kernel_rfl) (by kernel_rfl) rfl rfl rfl (v_iaO (j := m) rfl Try.underlying25 SZ3 rfl rfl (by first | omega | (simp [swr_len, swp_len] <;> omega))) ?_
 refine a_v 4 rfl (by kernel_rfl) (by kernel_rfl) (by kernel_rfl) rfl rfl rfl (v_ldO (v := gt xs m) 0 rfl Try.underlying3 rfl rfl rfl (by first | omega | (simp [swr_len, swp_len] <;> omega)) (gt_eq (by first | omega | (simp [swr_len, swp_len] <;> omega))).symm) ?_
 refine a_v 5 rfl (by kernel_rfl) (by kernel_rfl) (by kernel_rfl) rfl rfl rfl (v_mv rfl rfl) ?_
 refine a_v 6 rfl (by kernel_rfl) (by kernel_rfl) (by kernel_rfl) rfl rfl rfl (v_mv rfl rfl) ?_
 refine a_v 7 rfl (by kernel_rfl) (by kernel_rfl) (by kernel_rfl) rfl rfl rfl (v_iaO (j := (i + j) / 2) rfl Try.underlying25 SZ3 rfl rfl (by first | omega | (simp [swr_len, swp_len] <;> omega))) ?_
 refine a_v 8 rfl (by kernel_rfl) (by kernel_rfl) (by kernel_rfl) rfl rfl rfl (v_ldO (v := gt xs ((i + j) / 2)) 0 rfl Try.underlying3 rfl rfl rfl (by first | omega | (simp [swr_len, swp_len] <;> omega)) (gt_eq (by first | omega | (simp [swr_len, swp_len] <;> omega))).symm) ?_
 refine a_1 (i := 9) (by kernel_rfl) ?_
 refine i_e rfl rfl (e_callF [1] #[.int .i64 (gt xs m), .int .i64 (gt xs ((i + j) / 2)), .pointer (some ⟨bl, 0, none⟩)] rfl rfl rfl rfl rfl Try.func27 rfl (by decide) rfl rfl rfl rfl (fun w ht => hcmp _ _ w _ (hDg xs (List.Perm.refl _) m (by first | omega | (simp [swr_len, swp_len] <;> omega))).1 (hDg xs (List.Perm.refl _) m (by first | omega | (simp [swr_len, swp_len] <;> omega))).2 (hDg xs (List.Perm.refl _) ((i + j) / 2) (by first | omega | (simp [swr_len, swp_len] <;> omega))).1 (hDg xs (List.Perm.refl _) ((i + j) / 2) (by first | omega | (simp [swr_len, swp_len] <;> omega))).2)) ?_
 refine ⟨(mem_pick (idx := [0, 1]) rfl), ?_⟩
 refine a_v 10 rfl (by kernel_rfl) (by kernel_rfl) (by kernel_rfl) rfl rfl rfl (v_ar rfl rfl rfl rfl) ?_
 refine a_v 11 rfl (by kernel_rfl) (by kernel_rfl) (by kernel_rfl) rfl rfl rfl (v_not rfl rfl) ?_
 refine a_end (by kernel_rfl) ?_
 refine q_seq ?_
 refine c_cond (t := !(decide ((cmp3 (key (gt xs m)) (key (gt xs ((i + j) / 2))) : Int) < 0))) rfl rfl (fun h7_ => ?_) (fun h7_ => ?_)
 have hck : ¬ key (gt xs m) < key (gt xs ((i + j) / 2)) := by simpa [cmp3_lt] using h7_
 refine r_ord (l := [0, 1, 2]) rfl (by kernel_rfl) (by kernel_rfl) ?_
 refine s_v rfl rfl rfl rfl (v_mv rfl rfl) ?_
 refine s_v rfl rfl rfl rfl (OpV.cast (v := .int .i64 ((((i + j) / 2) + 1 : Nat) : Int)) (v_ar rfl rfl rfl rfl) (addN (a := (i + j) / 2) (b := 1) (by first | omega | (simp [swr_len, swp_len] <;> omega)))) ?_
 refine s_v rfl rfl rfl rfl (v_as rfl rfl) ?_
 refine s_end ?_
 refine q_block ?_
 exact q_again ((i + j) / 2 + 1, j) [0, 1] (hs.yes hm.l (by omega) hck) (by dsimp only; omega) (subF_spec ⟨rfl, rfl, rfl, rfl, rfl, rfl, rfl, trivial⟩) rfl (by decide)
 have h7_d : (cmp3 (key (gt xs m)) (key (gt xs ((i + j) / 2))) : Int) < 0 := by simpa using h7_
 have hck : key (gt xs m) < key (gt xs ((i + j) / 2)) := by simpa [cmp3_lt] using h7_
 refine r_ord (l := [0, 1]) rfl (by kernel_rfl) (by kernel_rfl) ?_
 refine s_v rfl rfl rfl rfl (v_mv rfl rfl) ?_
 refine s_v rfl rfl rfl rfl (v_as rfl rfl) ?_
 refine s_end ?_
 refine q_block ?_
 exact q_again (i, (i + j) / 2) [0, 1] (hs.no hm.l (by omega) hck) (by dsimp only; omega) (subF_spec ⟨rfl, rfl, rfl, rfl, rfl, rfl, rfl, trivial⟩) rfl (by decide)
 have h6_d := of_decide_eq_false h6_
 refine c_exit (i := 4) rfl rfl ?_
 refine q_then_exit ?_
 refine q_then_exit ?_
 refine q_block_here rfl ?_
 refine q_seq ?_
 refine c_seq rfl ?_
 refine c_seq rfl ?_
 refine r_ord (l := [0, 1]) rfl (by kernel_rfl) (by kernel_rfl) ?_
 refine s_v rfl rfl rfl rfl (v_mv rfl rfl) ?_
 refine s_v rfl rfl rfl rfl (v_as rfl rfl) ?_
 refine s_end ?_
 refine q_seq ?_
 refine c_block rfl ?_
 obtain rfl : i = j := by omega
 have hbs := hs
 refine c_loop (σ := (Nat × List Int)) (fun s : (Nat × List Int) => match s with | (k, ys) => MvL xs m k ys ∧ i ≤ k) (fun s : (Nat × List Int) => match s with | (k, ys) => k) (fun s : (Nat × List Int) => match s with | (k, ys) => [(0, .slice (some ⟨g, 0, none⟩) n cap), (1, .int .i64 (a : Int)), (2, .int .i64 (m : Int)), (3, .int .i64 (b : Int)), (4, .func (.func 27) #[] #[.pointer (some ⟨bl, 0, none⟩)]), (14, .int .i64 (i : Int)), (17, .int .i64 (k : Int))]) (fun s : (Nat × List Int) => match s with | (k, ys) => [.b g (.cells (RowI .i64 ys rest) 3 (0, 0)), .f (Φ)]) (m, xs) [0, 1] rfl ⟨MvL.start xs m, by omega⟩ (subF_spec ⟨rfl, rfl, rfl, rfl, rfl, rfl, rfl, trivial⟩) rfl (by decide) ?_
 rintro ⟨k, ys⟩ hs
 have hk : MvL xs m k ys ∧ i ≤ k := hs
 have hly : ys.length = n := hk.1.len.trans hn
 have h_k := hk.1.km
 have h_k2 := hk.2
 refine c_seq rfl ?_
 refine c_seq rfl ?_
 refine r_ord (l := [0, 1, 2]) rfl (by kernel_rfl) (by kernel_rfl) ?_
 refine s_v rfl rfl rfl rfl (v_mv rfl rfl) ?_
 refine s_v rfl rfl rfl rfl (v_mv rfl rfl) ?_
 refine s_v rfl rfl rfl rfl (v_ar rfl rfl rfl rfl) ?_
 refine s_end ?_
 refine q_seq ?_
 refine c_cond (t := decide (((k : Int) : Int) > (i : Int))) rfl rfl (fun h8_ => ?_) (fun h8_ => ?_)
 have h8_d := of_decide_eq_true h8_
 refine c_skip rfl ?_
 refine q_seq ?_
 refine c_seq rfl ?_
 refine c_block rfl ?_
 refine r_any [.f (Φ)] (by kernel_rfl) rfl (by kernel_rfl) (mem_pick (idx := [1]) rfl) ?_
 refine a_v 0 rfl (by kernel_rfl) (by kernel_rfl) (by kernel_rfl) rfl rfl rfl (v_mv rfl rfl) ?_
 refine a_v 1 rfl (by kernel_rfl) (by kernel_rfl) (by kernel_rfl) rfl rfl rfl (v_mv rfl rfl) ?_
 refine a_v 2 rfl (by kernel_rfl) (by kernel_rfl) (by kernel_rfl) rfl rfl rfl (v_mv rfl rfl) ?_
 refine a_v 3 rfl (by kernel_rfl) (by kernel_rfl) (by kernel_rfl) rfl rfl rfl (v_mv rfl rfl) ?_
 refine a_v 4 rfl (by kernel_rfl) (by kernel_rfl) (by kernel_rfl) rfl rfl rfl (OpV.cast (v := .int .i64 ((k - 1 : Nat) : Int)) (v_ar rfl rfl rfl rfl) (subN (a := k) (b := 1) (by first | omega | (simp [swr_len, swp_len] <;> omega)) (by first | omega | (simp [swr_len, swp_len] <;> omega)))) ?_
 refine a_v 5 rfl (by kernel_rfl) (by kernel_rfl) (by kernel_rfl) rfl rfl rfl (v_mv rfl rfl) ?_
 refine a_v 6 rfl (by kernel_rfl) (by kernel_rfl) (by kernel_rfl) rfl rfl rfl (v_mv rfl rfl) ?_
 refine a_v 7 rfl (by kernel_rfl) (by kernel_rfl) (by kernel_rfl) rfl rfl rfl (OpV.cast (v := .int .i64 ((k - 1 : Nat) : Int)) (v_ar rfl rfl rfl rfl) (subN (a := k) (b := 1) (by first | omega | (simp [swr_len, swp_len] <;> omega)) (by first | omega | (simp [swr_len, swp_len] <;> omega)))) ?_
 refine a_v 8 rfl (by kernel_rfl) (by kernel_rfl) (by kernel_rfl) rfl rfl rfl (v_iaO (j := k - 1) rfl Try.underlying25 SZ3 rfl rfl (by first | omega | (simp [swr_len, swp_len] <;> omega))) ?_
 refine a_v 10 rfl (by kernel_rfl) (by kernel_rfl) (by kernel_rfl) rfl rfl rfl (v_mv rfl rfl) ?_
 refine a_v 11 rfl (by kernel_rfl) (by kernel_rfl) (by kernel_rfl) rfl rfl rfl (v_mv rfl rfl) ?_
 refine a_v 12 rfl (by kernel_rfl) (by kernel_rfl) (by kernel_rfl) rfl rfl rfl (v_iaO (j := k) rfl Try.underlying25 SZ3 rfl rfl (by first | omega | (simp [swr_len, swp_len] <;> omega))) ?_
 refine a_2 (i := 9) (j := 13) (by kernel_rfl) ?_ ?_
 refine i_v rfl rfl rfl rfl (v_ldO (v := gt ys (k - 1)) 0 rfl Try.underlying3 rfl rfl rfl (by first | omega | (simp [swr_len, swp_len] <;> omega)) (gt_eq (by first | omega | (simp [swr_len, swp_len] <;> omega))).symm) ?_
 refine a_1 (i := 13) (by kernel_rfl) ?_
 refine i_v rfl rfl rfl rfl (v_ldO (v := gt ys k) 0 rfl Try.underlying3 rfl rfl rfl (by first | omega | (simp [swr_len, swp_len] <;> omega)) (gt_eq (by first | omega | (simp [swr_len, swp_len] <;> omega))).symm) ?_
 refine a_v 14 rfl (by kernel_rfl) (by kernel_rfl) (by kernel_rfl) rfl rfl rfl (v_iaO (j := k) rfl Try.underlying25 SZ3 rfl rfl (by first | omega | (simp [swr_len, swp_len] <;> omega))) ?_
 refine a_1 (i := 15) (by kernel_rfl) ?_
 refine i_e rfl rfl (e_stO 0 rfl rfl SZ3 rfl rfl rfl (by first | omega | (simp [swr_len, swp_len] <;> omega))) ?_
 refine ⟨(mem_pick (idx := [1]) rfl), ?_⟩
 refine a_v 16 rfl (by kernel_rfl) (by kernel_rfl) (by kernel_rfl) rfl rfl rfl (v_iaO (j := k - 1) rfl Try.underlying25 SZ3 rfl rfl (by first | omega | (simp [swr_len, swp_len] <;> omega))) ?_
 refine a_1 (i := 17) (by kernel_rfl) ?_
 refine i_e rfl rfl (e_stO 0 rfl rfl SZ3 rfl rfl rfl (by first | omega | (simp [swr_len, swp_len] <;> omega))) ?_
 refine ⟨(mem_pick (idx := [1]) rfl), ?_⟩
 refine a_end (by kernel_rfl) ?_
 refine q_block ?_
 refine q_seq ?_
 refine r_ord (l := [0, 1, 2]) rfl (by kernel_rfl) (by kernel_rfl) ?_
 refine s_v rfl rfl rfl rfl (v_mv rfl rfl) ?_
 refine s_v rfl rfl rfl rfl (OpV.cast (v := .int .i64 ((k - 1 : Nat) : Int)) (v_ar rfl rfl rfl rfl) (subN (a := k) (b := 1) (by first | omega | (simp [swr_len, swp_len] <;> omega)) (by first | omega | (simp [swr_len, swp_len] <;> omega)))) ?_
 refine s_v rfl rfl rfl rfl (v_as rfl rfl) ?_
 refine s_end ?_
 exact q_again (k - 1, swp ys k (k - 1)) [0, 1] ⟨hk.1.step (by omega) (by omega), by omega⟩ (by dsimp only; omega) (subF_spec ⟨rfl, rfl, rfl, rfl, rfl, rfl, rfl, trivial⟩) rfl (by decide)
 refine i_v rfl rfl rfl rfl (v_ldO (v := gt ys k) 0 rfl Try.underlying3 rfl rfl rfl (by first | omega | (simp [swr_len, swp_len] <;> omega)) (gt_eq (by first | omega | (simp [swr_len, swp_len] <;> omega))).symm) ?_
 refine a_1 (i := 9) (by kernel_rfl) ?_
 refine i_v rfl rfl rfl rfl (v_ldO (v := gt ys (k - 1)) 0 rfl Try.underlying3 rfl rfl rfl (by first | omega | (simp [swr_len, swp_len] <;> omega)) (gt_eq (by first | omega | (simp [swr_len, swp_len] <;> omega))).symm) ?_
 refine a_v 14 rfl (by kernel_rfl) (by kernel_rfl) (by kernel_rfl) rfl rfl rfl (v_iaO (j := k) rfl Try.underlying25 SZ3 rfl rfl (by first | omega | (simp [swr_len, swp_len] <;> omega))) ?_
 refine a_1 (i := 15) (by kernel_rfl) ?_
 refine i_e rfl rfl (e_stO 0 rfl rfl SZ3 rfl rfl rfl (by first | omega | (simp [swr_len, swp_len] <;> omega))) ?_
 refine ⟨(mem_pick (idx := [1]) rfl), ?_⟩
 refine a_v 16 rfl (by kernel_rfl) (by kernel_rfl) (by kernel_rfl) rfl rfl rfl (v_iaO (j := k - 1) rfl Try.underlying25 SZ3 rfl rfl (by first | omega | (simp [swr_len, swp_len] <;> omega))) ?_
 refine a_1 (i := 17) (by kernel_rfl) ?_
 refine i_e rfl rfl (e_stO 0 rfl rfl SZ3 rfl rfl rfl (by first | omega | (simp [swr_len, swp_len] <;> omega))) ?_
 refine ⟨(mem_pick (idx := [1]) rfl), ?_⟩
 refine a_end (by kernel_rfl) ?_
 refine q_block ?_
 refine q_seq ?_
 refine r_ord (l := [0, 1, 2]) rfl (by kernel_rfl) (by kernel_rfl) ?_
 refine s_v rfl rfl rfl rfl (v_mv rfl rfl) ?_
 refine s_v rfl rfl rfl rfl (OpV.cast (v := .int .i64 ((k - 1 : Nat) : Int)) (v_ar rfl rfl rfl rfl) (subN (a := k) (b := 1) (by first | omega | (simp [swr_len, swp_len] <;> omega)) (by first | omega | (simp [swr_len, swp_len] <;> omega)))) ?_
 refine s_v rfl rfl rfl rfl (v_as rfl rfl) ?_
 refine s_end ?_
 exact q_again (k - 1, swp ys k (k - 1)) [0, 1] ⟨hk.1.step (by omega) (by omega), by omega⟩ (by dsimp only; omega) (subF_spec ⟨rfl, rfl, rfl, rfl, rfl, rfl, rfl, trivial⟩) rfl (by decide)
 have h8_d := of_decide_eq_false h8_
 obtain rfl : k = i := by omega
 refine c_exit (i := 6) rfl rfl ?_
 refine q_then_exit ?_
 refine q_then_exit ?_
 refine q_block_here rfl ?_
 refine q_seq ?_
 refine c_ret rfl ?_
 refine q_then_ret ?_
 refine q_take [0] rfl (by decide) ?_
 exact q_post rfl .nil (hX _ (MvL.done hm (by omega) hbs hk.1))
 have h5_d : ((b - m : Nat) : Int) ≠ 1 := by simpa using h5_
 refine c_skip rfl ?_
 refine q_seq ?_
 refine c_seq rfl ?_
 refine r_ord (l := [0, 1, 2, 3, 4, 5, 6]) rfl (by kernel_rfl) (by kernel_rfl) ?_
 refine s_v rfl rfl rfl rfl (v_mv rfl rfl) ?_
 refine s_v rfl rfl rfl rfl (v_mv rfl rfl) ?_
 refine s_v rfl rfl rfl rfl (OpV.cast (v := .int .i64 ((a + b : Nat) : Int)) (v_ar rfl rfl rfl rfl) (addN (a := a) (b := b) (by first | omega | (simp [swr_len, swp_len] <;> omega)))) ?_
 refine s_v rfl rfl rfl rfl (OpV.cast (v := .int .u64 ((a + b : Nat) : Int)) (v_conv rfl Try.underlying3 Try.underlying101 rfl) (cuN (a := a + b) (by first | omega | (simp [swr_len, swp_len] <;> omega)))) ?_
 refine s_v rfl rfl rfl rfl (OpV.cast (v := .int .u64 (((a + b) / 2 : Nat) : Int)) (v_shr rfl rfl rfl (by omega)) (shN (a := a + b))) ?_
 refine s_v rfl rfl rfl rfl (OpV.cast (v := .int .i64 (((a + b) / 2 : Nat) : Int)) (v_conv rfl Try.underlying101 Try.underlying3 rfl) (ciN (a := (a + b) / 2) (by first | omega | (simp [swr_len, swp_len] <;> omega)))) ?_
 refine s_v rfl rfl rfl rfl (v_as rfl rfl) ?_
 refine s_end ?_
 refine q_seq ?_
 refine c_seq rfl ?_
 refine r_ord (l := [0, 1, 2, 3]) rfl (by kernel_rfl) (by kernel_rfl) ?_
 refine s_v rfl rfl rfl rfl (v_mv rfl rfl) ?_
 refine s_v rfl rfl rfl rfl (v_mv rfl rfl) ?_
 refine s_v rfl rfl rfl rfl (OpV.cast (v := .int .i64 ((((a + b) / 2) + m : Nat) : Int)) (v_ar rfl rfl rfl rfl) (addN (a := (a + b) / 2) (b := m) (by first | omega | (simp [swr_len, swp_len] <;> omega)))) ?_
 refine s_v rfl rfl rfl rfl (v_as rfl rfl) ?_
 refine s_end ?_
 refine q_seq ?_
 refine c_seq rfl ?_
 refine r_ord (l := [0, 1]) rfl (by kernel_rfl) (by kernel_rfl) ?_
 refine s_v rfl rfl rfl rfl (v_as rfl rfl) ?_
 refine s_v rfl rfl rfl rfl (v_as rfl rfl) ?_
 refine s_end ?_
 refine q_seq ?_
 refine c_seq rfl ?_
 refine c_seq rfl ?_
 refine r_ord (l := [0, 1, 2]) rfl (by kernel_rfl) (by kernel_rfl) ?_
 refine s_v rfl rfl rfl rfl (v_mv rfl rfl) ?_
 refine s_v rfl rfl rfl rfl (v_mv rfl rfl) ?_
 refine s_v rfl rfl rfl rfl (v_ar rfl rfl rfl rfl) ?_
 refine s_end ?_
 refine q_seq ?_
 refine c_cond (t := decide (((m : Int) : Int) > (((a + b) / 2 : Nat) : Int))) rfl rfl (fun h9_ => ?_) (fun h9_ => ?_)
 have h9_d := of_decide_eq_true h9_
 refine c_seq rfl ?_
 refine r_ord (l := [0, 1, 2, 3]) rfl (by kernel_rfl) (by kernel_rfl) ?_
 refine s_v rfl rfl rfl rfl (v_mv rfl rfl) ?_
 refine s_v rfl rfl rfl rfl (v_mv rfl rfl) ?_
 refine s_v rfl rfl rfl rfl (OpV.cast (v := .int .i64 (((((a + b) / 2) + m) - b : Nat) : Int)) (v_ar rfl rfl rfl rfl) (subN (a := ((a + b) / 2) + m) (b := b) (by first | omega | (simp [swr_len, swp_len] <;> omega)) (by first | omega | (simp [swr_len, swp_len] <;> omega)))) ?_
 refine s_v rfl rfl rfl rfl (v_as rfl rfl) ?_
 refine s_end ?_
 refine q_seq ?_
 refine r_ord (l := [0, 1]) rfl (by kernel_rfl) (by kernel_rfl) ?_
 refine s_v rfl rfl rfl rfl (v_mv rfl rfl) ?_
 refine s_v rfl rfl rfl rfl (v_as rfl rfl) ?_
 refine s_end ?_
 refine q_seq ?_
 refine c_seq rfl ?_
 refine r_ord (l := [0, 1, 2]) rfl (by kernel_rfl) (by kernel_rfl) ?_
 refine s_v rfl rfl rfl rfl (v_mv rfl rfl) ?_
 refine s_v rfl rfl rfl rfl (OpV.cast (v := .int .i64 (((((a + b) / 2) + m) - 1 : Nat) : Int)) (v_ar rfl rfl rfl rfl) (subN (a := ((a + b) / 2) + m) (b := 1) (by first | omega | (simp [swr_len, swp_len] <;> omega)) (by first | omega | (simp [swr_len, swp_len] <;> omega)))) ?_
 refine s_v rfl rfl rfl rfl (v_as rfl rfl) ?_
 refine s_end ?_
 refine q_seq ?_
 refine c_seq rfl ?_
 refine c_block rfl ?_
 have hbd : Bd a m b ((((a + b) / 2) + m) - b) ((a + b) / 2) := Bd.big (by omega) (by omega) (by omega)
 refine c_loop (σ := (Nat × Nat)) (fun s : Nat × Nat => match s with | (s, r) => BsC key xs a m b ((((a + b) / 2) + m) - b) ((a + b) / 2) s r) (fun s : Nat × Nat => match s with | (s, r) => r - s) (fun s : Nat × Nat => match s with | (s, r) => [(0, .slice (some ⟨g, 0, none⟩) n cap), (1, .int .i64 (a : Int)), (2, .int .i64 (m : Int)), (3, .int .i64 (b : Int)), (4, .func (.func 27) #[] #[.pointer (some ⟨bl, 0, none⟩)]), (18, .int .i64 (((a + b) / 2 : Nat) : Int)), (19, .int .i64 ((((a + b) / 2) + m : Nat) : Int)), (22, .int .i64 (((((a + b) / 2) + m) - 1 : Nat) : Int)), (20, .int .i64 (s : Int)), (21, .int .i64 (r : Int))]) (fun s : Nat × Nat => match s with | (s, r) => [.b g (.cells (RowI .i64 xs rest) 3 (0, 0)), .f (Φ)]) ((((a + b) / 2) + m) - b, (a + b) / 2) [0, 1] rfl (BsC.start hbd) (subF_spec ⟨rfl, rfl, rfl, rfl, rfl, rfl, rfl, rfl, rfl, rfl, trivial⟩) rfl (by decide) ?_
 rintro ⟨s, r⟩ hs
 have hs : BsC key xs a m b ((((a + b) / 2) + m) - b) ((a + b) / 2) s r := hs
 have h_1 := hs.los
 have h_2 := hs.sr
 have h_3 := hs.rhi
 have h_4 := hbd.alo
 have h_5 := hbd.him
 have h_6 := hbd.sum
 have h_7 := hbd.top
 refine c_seq rfl ?_
 refine c_seq rfl ?_
 refine r_ord (l := [0, 1, 2]) rfl (by kernel_rfl) (by kernel_rfl) ?_
 refine s_v rfl rfl rfl rfl (v_mv rfl rfl) ?_
 refine s_v rfl rfl rfl rfl (v_mv rfl rfl) ?_
 refine s_v rfl rfl rfl rfl (v_ar rfl rfl rfl rfl) ?_
 refine s_end ?_
 refine q_seq ?_
 refine c_cond (t := decide (((s : Int) : Int) < (r : Int))) rfl rfl (fun h10_ => ?_) (fun h10_ => ?_)
 have h10_d := of_decide_eq_true h10_
 refine c_skip rfl ?_
 refine q_seq ?_
 refine c_block rfl ?_
 refine c_seq rfl ?_
 refine r_ord (l := [0, 1, 2, 3, 4, 5, 6]) rfl (by kernel_rfl) (by kernel_rfl) ?_
 refine s_v rfl rfl rfl rfl (v_mv rfl rfl) ?_
 refine s_v rfl rfl rfl rfl (v_mv rfl rfl) ?_
 refine s_v rfl rfl rfl rfl (OpV.cast (v := .int .i64 ((s + r : Nat) : Int)) (v_ar rfl rfl rfl rfl) (addN (a := s) (b := r) (by first | omega | (simp [swr_len, swp_len] <;> omega)))) ?_
 refine s_v rfl rfl rfl rfl (OpV.cast (v := .int .u64 ((s + r : Nat) : Int)) (v_conv rfl Try.underlying3 Try.underlying101 rfl) (cuN (a := s + r) (by first | omega | (simp [swr_len, swp_len] <;> omega)))) ?_
 refine s_v rfl rfl rfl rfl (OpV.cast (v := .int .u64 (((s + r) / 2 : Nat) : Int)) (v_shr rfl rfl rfl (by omega)) (shN (a := s + r))) ?_
 refine s_v rfl rfl rfl rfl (OpV.cast (v := .int .i64 (((s + r) / 2 : Nat) : Int)) (v_conv rfl Try.underlying101 Try.underlying3 rfl) (ciN (a := (s + r) / 2) (by first | omega | (simp [swr_len, swp_len] <;> omega)))) ?_
 refine s_v rfl rfl rfl rfl (v_as rfl rfl) ?_
 refine s_end ?_
 refine q_seq ?_
 refine c_seq rfl ?_
 refine r_any [.b g (.cells (RowI .i64 xs rest) 3 (0, 0)), .f (Φ)] (by kernel_rfl) rfl (by kernel_rfl) (mem_pick (idx := [0, 1]) rfl) ?_
 refine a_v 0 rfl (by kernel_rfl) (by kernel_rfl) (by kernel_rfl) rfl rfl rfl (v_mv rfl rfl) ?_
 refine a_v 1 rfl (by kernel_rfl) (by kernel_rfl) (by kernel_rfl) rfl rfl rfl (v_mv rfl rfl) ?_
 refine a_v 2 rfl (by kernel_rfl) (by kernel_rfl) (by kernel_rfl) rfl rfl rfl (v_mv rfl rfl) ?_
 refine a_v 3 rfl (by kernel_rfl) (by kernel_rfl) (by kernel_rfl) rfl rfl rfl (v_mv rfl rfl) ?_
 refine a_v 4 rfl (by kernel_rfl) (by kernel_rfl) (by kernel_rfl) rfl rfl rfl (OpV.cast (v := .int .i64 ((((((a + b) / 2) + m) - 1) - ((s + r) / 2) : Nat) : Int)) (v_ar rfl rfl rfl rfl) (subN (a := (((a + b) / 2) + m) - 1) (b := (s + r) / 2) (by first | omega | (simp [swr_len, swp_len] <;> omega)) (by first | omega | (simp [swr_len, swp_len] <;> omega)))) ?_
 refine a_v 5 rfl (by kernel_rfl) (by kernel_rfl) (by kernel_rfl) rfl rfl rfl (v_iaO (j := ((((a + b) / 2) + m) - 1) - ((s + r) / 2)) rfl Try.underlying25 SZ3 rfl rfl (by first | omega | (simp [swr_len, swp_len] <;> omega))) ?_
 refine a_v 6 rfl (by kernel_rfl) (by kernel_rfl) (by kernel_rfl) rfl rfl rfl (v_ldO (v := gt xs (((((a + b) / 2) + m) - 1) - ((s + r) / 2))) 0 rfl Try.underlying3 rfl rfl rfl (by first | omega | (simp [swr_len, swp_len] <;> omega)) (gt_eq (by first | omega | (simp [swr_len, swp_len] <;> omega))).symm) ?_
 refine a_v 7 rfl (by kernel_rfl) (by kernel_rfl) (by kernel_rfl) rfl rfl rfl (v_mv rfl rfl) ?_
 refine a_v 8 rfl (by kernel_rfl) (by kernel_rfl) (by kernel_rfl) rfl rfl rfl (v_mv rfl rfl) ?_
 refine a_v 9 rfl (by kernel_rfl) (by kernel_rfl) (by kernel_rfl) rfl rfl rfl (v_iaO (j := (s + r) / 2) rfl Try.underlying25 SZ3 rfl rfl (by first | omega | (simp [swr_len, swp_len] <;> omega))) ?_
 refine a_v 10 rfl (by kernel_rfl) (by kernel_rfl) (by kernel_rfl) rfl rfl rfl (v_ldO (v := gt xs ((s + r) / 2)) 0 rfl Try.underlying3 rfl rfl rfl (by first | omega | (simp [swr_len, swp_len] <;> omega)) (gt_eq (by first | omega | (simp [swr_len, swp_len] <;> omega))).symm) ?_
 refine a_1 (i := 11) (by kernel_rfl) ?_
 refine i_e rfl rfl (e_callF [1] #[.int .i64 (gt xs (((((a + b) / 2) + m) - 1) - ((s + r) / 2))), .int .i64 (gt xs ((s + r) / 2)), .pointer (some ⟨bl, 0, none⟩)] rfl rfl rfl rfl rfl Try.func27 rfl (by decide) rfl rfl rfl rfl (fun w ht => hcmp _ _ w _ (hDg xs (List.Perm.refl _) (((((a + b) / 2) + m) - 1) - ((s + r) / 2)) (by first | omega | (simp [swr_len, swp_len] <;> omega))).1 (hDg xs (List.Perm.refl _) (((((a + b) / 2) + m) - 1) - ((s + r) / 2)) (by first | omega | (simp [swr_len, swp_len] <;> omega))).2 (hDg xs (List.Perm.refl _) ((s + r) / 2) (by first | omega | (simp [swr_len, swp_len] <;> omega))).1 (hDg xs (List.Perm.refl _) ((s + r) / 2) (by first | omega | (simp [swr_len, swp_len] <;> omega))).2)) ?_
 refine ⟨(mem_pick (idx := [0, 1]) rfl), ?_⟩
 refine a_v 12 rfl (by kernel_rfl) (by kernel_rfl) (by kernel_rfl) rfl rfl rfl (v_ar rfl rfl rfl rfl) ?_
 refine a_v 13 rfl (by kernel_rfl) (by kernel_rfl) (by kernel_rfl) rfl rfl rfl (v_not rfl rfl) ?_
 refine a_end (by kernel_rfl) ?_
 refine q_seq ?_
 refine c_cond (t := !(decide ((cmp3 (key (gt xs (((((a + b) / 2) + m) - 1) - ((s + r) / 2)))) (key (gt xs ((s + r) / 2))) : Int) < 0))) rfl rfl (fun h11_ => ?_) (fun h11_ => ?_)
 have hck : ¬ key (gt xs ((a + b) / 2 + m - 1 - (s + r) / 2)) < key (gt xs ((s + r) / 2)) := by simpa [cmp3_lt] using h11_
 refine r_ord (l := [0, 1, 2]) rfl (by kernel_rfl) (by kernel_rfl) ?_
 refine s_v rfl rfl rfl rfl (v_mv rfl rfl) ?_
 refine s_v rfl rfl rfl rfl (OpV.cast (v := .int .i64 ((((s + r) / 2) + 1 : Nat) : Int)) (v_ar rfl rfl rfl rfl) (addN (a := (s + r) / 2) (b := 1) (by first | omega | (simp [swr_len, swp_len] <;> omega)))) ?_
 refine s_v rfl rfl rfl rfl (v_as rfl rfl) ?_
 refine s_end ?_
 refine q_block ?_
 exact q_again ((s + r) / 2 + 1, r) [0, 1] (hs.yes hm hbd (by omega) hck) (by dsimp only; omega) (subF_spec ⟨rfl, rfl, rfl, rfl, rfl, rfl, rfl, rfl, rfl, rfl, trivial⟩) rfl (by decide)
 have h11_d : (cmp3 (key (gt xs (((((a + b) / 2) + m) - 1) - ((s + r) / 2)))) (key (gt xs ((s + r) / 2))) : Int) < 0 := by simpa using h11_
 have hck : key (gt xs ((a + b) / 2 + m - 1 - (s + r) / 2)) < key (gt xs ((s + r) / 2)) := by simpa [cmp3_lt] using h11_
 refine r_ord (l := [0, 1]) rfl (by kernel_rfl) (by kernel_rfl) ?_
 refine s_v rfl rfl rfl rfl (v_mv rfl rfl) ?_
 refine s_v rfl rfl rfl rfl (v_as rfl rfl) ?_
 refine s_end ?_
 refine q_block ?_
 exact q_again (s, (s + r) / 2) [0, 1] (hs.no hm hbd (by omega) hck) (by dsimp only; omega) (subF_spec ⟨rfl, rfl, rfl, rfl, rfl, rfl, rfl, rfl, rfl, rfl, trivial⟩) rfl (by decide)
 have h10_d := of_decide_eq_false h10_
 obtain rfl : s = r := by omega
 refine c_exit (i := 8) rfl rfl ?_
 refine q_then_exit ?_
 refine q_then_exit ?_
 refine q_block_here rfl ?_
 refine q_seq ?_
 refine c_seq rfl ?_
 refine r_ord (l := [0, 1, 2, 3]) rfl (by kernel_rfl) (by kernel_rfl) ?_
 refine s_v rfl rfl rfl rfl (v_mv rfl rfl) ?_
 refine s_v rfl rfl rfl rfl (v_mv rfl rfl) ?_
 refine s_v rfl rfl rfl rfl (OpV.cast (v := .int .i64 (((((a + b) / 2) + m) - s : Nat) : Int)) (v_ar rfl rfl rfl rfl) (subN (a := ((a + b) / 2) + m) (b := s) (by first | omega | (simp [swr_len, swp_len] <;> omega)) (by first | omega | (simp [swr_len, swp_len] <;> omega)))) ?_
 refine s_v rfl rfl rfl rfl (v_as rfl rfl) ?_
 refine s_end ?_
 refine q_seq ?_
 refine c_seq rfl ?_
 refine c_seq rfl ?_
 refine r_ord (l := [0, 1, 2, 3, 4, 5, 6, 7]) rfl (by kernel_rfl) (by kernel_rfl) ?_
 refine s_v rfl rfl rfl rfl (v_mv rfl rfl) ?_
 refine s_v rfl rfl rfl rfl (v_mv rfl rfl) ?_
 refine s_v rfl rfl rfl rfl (v_ar rfl rfl rfl rfl) ?_
 refine s_v rfl rfl rfl rfl (v_mv rfl rfl) ?_
 refine s_splitv (d := 181) (t := decide (((s : Int) : Int) < (m : Int))) rfl (fun h12_ => ?_) (fun h12_ => ?_)
 have h12_d := of_decide_eq_true h12_
 refine s_vg rfl rfl rfl rfl (v_mv rfl rfl) ?_
 refine s_vg rfl rfl rfl rfl (v_mv rfl rfl) ?_
 refine s_vg rfl rfl rfl rfl (v_ar rfl rfl rfl rfl) ?_
 refine s_v rfl rfl rfl rfl (v_pick rfl rfl rfl rfl) ?_
 refine s_end ?_
 refine q_seq ?_
 refine c_cond (t := decide (((m : Int) : Int) < (((((a + b) / 2) + m) - s : Nat) : Int))) rfl rfl (fun h13_ => ?_) (fun h13_ => ?_)
 have h13_d := of_decide_eq_true h13_
 refine r_ord (l := [0, 1, 2, 3, 4, 5]) rfl (by kernel_rfl) (by kernel_rfl) ?_
 refine s_v rfl rfl rfl rfl (v_mv rfl rfl) ?_
 refine s_v rfl rfl rfl rfl (v_mv rfl rfl) ?_
 refine s_v rfl rfl rfl rfl (v_mv rfl rfl) ?_
 refine s_v rfl rfl rfl rfl (v_mv rfl rfl) ?_
 refine s_v rfl rfl rfl rfl (v_mv rfl rfl) ?_
 refine s_e rfl rfl (e_call [0] [1] #[.slice (some ⟨g, 0, none⟩) n cap, .int .i64 (s : Int), .int .i64 (m : Int), .int .i64 (((((a + b) / 2) + m) - s : Nat) : Int), .func (.func 27) #[] #[.pointer (some ⟨bl, 0, none⟩)]] rfl rfl rfl rfl rfl Try.func70 rfl (by decide) rfl rfl rfl rfl (by decide) (fun w ht => rot_con g n cap xs rest (.func (.func 27) #[] #[.pointer (some ⟨bl, 0, none⟩)]) s m ((a + b) / 2 + m - s) hn hN (by omega) (by omega) (by omega) w _)) ?_
 intro ys hrot
 have hpt := Pt.rot hm hbd hs hrot
 refine s_end ?_
 refine q_seq ?_
 refine c_seq rfl ?_
 refine c_seq rfl ?_
 have hys := hpt.perm.length_eq
 refine r_ord (l := [0, 1, 2, 3, 4, 5, 6, 7]) rfl (by kernel_rfl) (by kernel_rfl) ?_
 refine s_v rfl rfl rfl rfl (v_mv rfl rfl) ?_
 refine s_v rfl rfl rfl rfl (v_mv rfl rfl) ?_
 refine s_v rfl rfl rfl rfl (v_ar rfl rfl rfl rfl) ?_
 refine s_v rfl rfl rfl rfl (v_mv rfl rfl) ?_
 refine s_splitv (d := 195) (t := decide (((a : Int) : Int) < (s : Int))) rfl (fun h14_ => ?_) (fun h14_ => ?_)
 have h14_d := of_decide_eq_true h14_
 refine s_vg rfl rfl rfl rfl (v_mv rfl rfl) ?_
 refine s_vg rfl rfl rfl rfl (v_mv rfl rfl) ?_
 refine s_vg rfl rfl rfl rfl (v_ar rfl rfl rfl rfl) ?_
 refine s_v rfl rfl rfl rfl (v_pick rfl rfl rfl rfl) ?_
 refine s_end ?_
 refine q_seq ?_
 refine c_cond (t := decide (((s : Int) : Int) < (((a + b) / 2 : Nat) : Int))) rfl rfl (fun h15_ => ?_) (fun h15_ => ?_)
 have h15_d := of_decide_eq_true h15_
 refine r_ord (l := [0, 1, 2, 3, 4, 5]) rfl (by kernel_rfl) (by kernel_rfl) ?_
 refine s_v rfl rfl rfl rfl (v_mv rfl rfl) ?_
 refine s_v rfl rfl rfl rfl (v_mv rfl rfl) ?_
 refine s_v rfl rfl rfl rfl (v_mv rfl rfl) ?_
 refine s_v rfl rfl rfl rfl (v_mv rfl rfl) ?_
 refine s_v rfl rfl rfl rfl (v_mv rfl rfl) ?_
 refine s_dup 1 rfl ?_
 refine s_e rfl rfl (e_call [1, 0] [2] #[.slice (some ⟨g, 0, none⟩) n cap, .int .i64 (a : Int), .int .i64 (s : Int), .int .i64 (((a + b) / 2 : Nat) : Int), .func (.func 27) #[] #[.pointer (some ⟨bl, 0, none⟩)]] rfl rfl rfl rfl rfl Try.func67 rfl (by decide) rfl rfl rfl rfl (by decide) (fun w ht => ih g n cap ys rest bl nl key Φ hcmp (fun x hx => hD x (hpt.perm.mem_iff.1 hx)) a s ((a + b) / 2) (hys.trans hn) hN (by omega) (hpt.mg1 (by omega) (by omega)) (by omega) w _)) ?_
 intro zs hsd1
 refine s_end ?_
 refine q_seq ?_
 refine c_seq rfl ?_
 have hzs := hsd1.len
 refine r_ord (l := [0, 1, 2, 3, 4, 5, 6, 7]) rfl (by kernel_rfl) (by kernel_rfl) ?_
 refine s_v rfl rfl rfl rfl (v_mv rfl rfl) ?_
 refine s_v rfl rfl rfl rfl (v_mv rfl rfl) ?_
 refine s_v rfl rfl rfl rfl (v_ar rfl rfl rfl rfl) ?_
 refine s_v rfl rfl rfl rfl (v_mv rfl rfl) ?_
 refine s_splitv (d := 209) (t := decide (((((a + b) / 2 : Nat) : Int) : Int) < (((((a + b) / 2) + m) - s : Nat) : Int))) rfl (fun h16_ => ?_) (fun h16_ => ?_)
 have h16_d := of_decide_eq_true h16_
 refine s_vg rfl rfl rfl rfl (v_mv rfl rfl) ?_
 refine s_vg rfl rfl rfl rfl (v_mv rfl rfl) ?_
 refine s_vg rfl rfl rfl rfl (v_ar rfl rfl rfl rfl) ?_
 refine s_v rfl rfl rfl rfl (v_pick rfl rfl rfl rfl) ?_
 refine s_end ?_
 refine q_seq ?_
 refine c_cond (t := decide (((((((a + b) / 2) + m) - s : Nat) : Int) : Int) < (b : Int))) rfl rfl (fun h17_ => ?_) (fun h17_ => ?_)
 have h17_d := of_decide_eq_true h17_
 refine r_ord (l := [0, 1, 2, 3, 4, 5]) rfl (by kernel_rfl) (by kernel_rfl) ?_
 refine s_v rfl rfl rfl rfl (v_mv rfl rfl) ?_
 refine s_v rfl rfl rfl rfl (v_mv rfl rfl) ?_
 refine s_v rfl rfl rfl rfl (v_mv rfl rfl) ?_
 refine s_v rfl rfl rfl rfl (v_mv rfl rfl) ?_
 refine s_v rfl rfl rfl rfl (v_mv rfl rfl) ?_
 refine s_dup 1 rfl ?_
 refine s_e rfl rfl (e_call [1, 0] [2] #[.slice (some ⟨g, 0, none⟩) n cap, .int .i64 (((a + b) / 2 : Nat) : Int), .int .i64 (((((a + b) / 2) + m) - s : Nat) : Int), .int .i64 (b : Int), .func (.func 27) #[] #[.pointer (some ⟨bl, 0, none⟩)]] rfl rfl rfl rfl rfl Try.func67 rfl (by decide) rfl rfl rfl rfl (by decide) (fun w ht => ih g n cap zs rest bl nl key Φ hcmp (fun x hx => hD x (hpt.perm.mem_iff.1 (hsd1.perm.mem_iff.1 hx))) ((a + b) / 2) ((a + b) / 2 + m - s) b (by omega) hN (by omega) (hpt.mg2 hsd1 (by omega) (by omega)) (by omega) w _)) ?_
 intro us hsd2
 refine s_end ?_
 refine q_take [0] rfl (by decide) ?_
 exact q_post_n rfl .nil (hX _ (hpt.done hsd1 hsd2 (by omega)))
 have h17_d := of_decide_eq_false h17_
 refine c_skip rfl ?_
 have hsd2 : Sd key ((a + b) / 2) b zs zs := hpt.sd2 hsd1 (by omega)
 refine q_take [0] rfl (by decide) ?_
 exact q_post_n rfl .nil (hX _ (hpt.done hsd1 hsd2 (by omega)))
 have h16_d := of_decide_eq_false h16_
 refine s_no rfl rfl rfl rfl ?_
 refine s_no rfl rfl rfl rfl ?_
 refine s_no rfl rfl rfl rfl ?_
 refine s_v rfl rfl rfl rfl (v_pick rfl rfl rfl rfl) ?_
 refine s_end ?_
 refine q_seq ?_
 refine c_cond0 rfl rfl ?_
 refine c_skip rfl ?_
 have hsd2 : Sd key ((a + b) / 2) b zs zs := hpt.sd2 hsd1 (by omega)
 refine q_take [0] rfl (by decide) ?_
 exact q_post_n rfl .nil (hX _ (hpt.done hsd1 hsd2 (by omega)))
 have h15_d := of_decide_eq_false h15_
 refine c_skip rfl ?_
 refine q_seq ?_
 refine c_seq rfl ?_
 have hsd1 : Sd key a ((a + b) / 2) ys ys := hpt.sd1 (by omega)
 have hzs := hsd1.len
 refine r_ord (l := [0, 1, 2, 3, 4, 5, 6, 7]) rfl (by kernel_rfl) (by kernel_rfl) ?_
 refine s_v rfl rfl rfl rfl (v_mv rfl rfl) ?_
 refine s_v rfl rfl rfl rfl (v_mv rfl rfl) ?_
 refine s_v rfl rfl rfl rfl (v_ar rfl rfl rfl rfl) ?_
 refine s_v rfl rfl rfl rfl (v_mv rfl rfl) ?_
 refine s_splitv (d := 209) (t := decide (((((a + b) / 2 : Nat) : Int) : Int) < (((((a + b) / 2) + m) - s : Nat) : Int))) rfl (fun h18_ => ?_) (fun h18_ => ?_)
 have h18_d := of_decide_eq_true h18_
 refine s_vg rfl rfl rfl rfl (v_mv rfl rfl) ?_
 refine s_vg rfl rfl rfl rfl (v_mv rfl rfl) ?_
 refine s_vg rfl rfl rfl rfl (v_ar rfl rfl rfl rfl) ?_
 refine s_v rfl rfl rfl rfl (v_pick rfl rfl rfl rfl) ?_
 refine s_end ?_
 refine q_seq ?_
 refine c_cond (t := decide (((((((a + b) / 2) + m) - s : Nat) : Int) : Int) < (b : Int))) rfl rfl (fun h19_ => ?_) (fun h19_ => ?_)
 have h19_d := of_decide_eq_true h19_
 refine r_ord (l := [0, 1, 2, 3, 4, 5]) rfl (by kernel_rfl) (by kernel_rfl) ?_
 refine s_v rfl rfl rfl rfl (v_mv rfl rfl) ?_
 refine s_v rfl rfl rfl rfl (v_mv rfl rfl) ?_
 refine s_v rfl rfl rfl rfl (v_mv rfl rfl) ?_
 refine s_v rfl rfl rfl rfl (v_mv rfl rfl) ?_
 refine s_v rfl rfl rfl rfl (v_mv rfl rfl) ?_
 refine s_dup 1 rfl ?_
 refine s_e rfl rfl (e_call [1, 0] [2] #[.slice (some ⟨g, 0, none⟩) n cap, .int .i64 (((a + b) / 2 : Nat) : Int), .int .i64 (((((a + b) / 2) + m) - s : Nat) : Int), .int .i64 (b : Int), .func (.func 27) #[] #[.pointer (some ⟨bl, 0, none⟩)]] rfl rfl rfl rfl rfl Try.func67 rfl (by decide) rfl rfl rfl rfl (by decide) (fun w ht => ih g n cap ys rest bl nl key Φ hcmp (fun x hx => hD x (hpt.perm.mem_iff.1 (hsd1.perm.mem_iff.1 hx))) ((a + b) / 2) ((a + b) / 2 + m - s) b (by omega) hN (by omega) (hpt.mg2 hsd1 (by omega) (by omega)) (by omega) w _)) ?_
 intro us hsd2
 refine s_end ?_
 refine q_take [0] rfl (by decide) ?_
 exact q_post_n rfl .nil (hX _ (hpt.done hsd1 hsd2 (by omega)))
 have h19_d := of_decide_eq_false h19_
 refine c_skip rfl ?_
 have hsd2 : Sd key ((a + b) / 2) b ys ys := hpt.sd2 hsd1 (by omega)
 refine q_take [0] rfl (by decide) ?_
 exact q_post_n rfl .nil (hX _ (hpt.done hsd1 hsd2 (by omega)))
 have h18_d := of_decide_eq_false h18_
 refine s_no rfl rfl rfl rfl ?_
 refine s_no rfl rfl rfl rfl ?_
 refine s_no rfl rfl rfl rfl ?_
 refine s_v rfl rfl rfl rfl (v_pick rfl rfl rfl rfl) ?_
 refine s_end ?_
 refine q_seq ?_
 refine c_cond0 rfl rfl ?_
 refine c_skip rfl ?_
 have hsd2 : Sd key ((a + b) / 2) b ys ys := hpt.sd2 hsd1 (by omega)
 refine q_take [0] rfl (by decide) ?_
 exact q_post_n rfl .nil (hX _ (hpt.done hsd1 hsd2 (by omega)))
 have h14_d := of_decide_eq_false h14_
 refine s_no rfl rfl rfl rfl ?_
 refine s_no rfl rfl rfl rfl ?_
 refine s_no rfl rfl rfl rfl ?_
 refine s_v rfl rfl rfl rfl (v_pick rfl rfl rfl rfl) ?_
 refine s_end ?_
 refine q_seq ?_
 refine c_cond0 rfl rfl ?_
 refine c_skip rfl ?_
 refine q_seq ?_
 refine c_seq rfl ?_
 have hsd1 : Sd key a ((a + b) / 2) ys ys := hpt.sd1 (by omega)
 have hzs := hsd1.len
 refine r_ord (l := [0, 1, 2, 3, 4, 5, 6, 7]) rfl (by kernel_rfl) (by kernel_rfl) ?_
 refine s_v rfl rfl rfl rfl (v_mv rfl rfl) ?_
 refine s_v rfl rfl rfl rfl (v_mv rfl rfl) ?_
 refine s_v rfl rfl rfl rfl (v_ar rfl rfl rfl rfl) ?_
 refine s_v rfl rfl rfl rfl (v_mv rfl rfl) ?_
 refine s_splitv (d := 209) (t := decide (((((a + b) / 2 : Nat) : Int) : Int) < (((((a + b) / 2) + m) - s : Nat) : Int))) rfl (fun h20_ => ?_) (fun h20_ => ?_)
 have h20_d := of_decide_eq_true h20_
 refine s_vg rfl rfl rfl rfl (v_mv rfl rfl) ?_
 refine s_vg rfl rfl rfl rfl (v_mv rfl rfl) ?_
 refine s_vg rfl rfl rfl rfl (v_ar rfl rfl rfl rfl) ?_
 refine s_v rfl rfl rfl rfl (v_pick rfl rfl rfl rfl) ?_
 refine s_end ?_
 refine q_seq ?_
 refine c_cond (t := decide (((((((a + b) / 2) + m) - s : Nat) : Int) : Int) < (b : Int))) rfl rfl (fun h21_ => ?_) (fun h21_ => ?_)
 have h21_d := of_decide_eq_true h21_
 refine r_ord (l := [0, 1, 2, 3, 4, 5]) rfl (by kernel_rfl) (by kernel_rfl) ?_
 refine s_v rfl rfl rfl rfl (v_mv rfl rfl) ?_
 refine s_v rfl rfl rfl rfl (v_mv rfl rfl) ?_
 refine s_v rfl rfl rfl rfl (v_mv rfl rfl) ?_
 refine s_v rfl rfl rfl rfl (v_mv rfl rfl) ?_
 refine s_v rfl rfl rfl rfl (v_mv rfl rfl) ?_
 refine s_dup 1 rfl ?_
 refine s_e rfl rfl (e_call [1, 0] [2] #[.slice (some ⟨g, 0, none⟩) n cap, .int .i64 (((a + b) / 2 : Nat) : Int), .int .i64 (((((a + b) / 2) + m) - s : Nat) : Int), .int .i64 (b : Int), .func (.func 27) #[] #[.pointer (some ⟨bl, 0, none⟩)]] rfl rfl rfl rfl rfl Try.func67 rfl (by decide) rfl rfl rfl rfl (by decide) (fun w ht => ih g n cap ys rest bl nl key Φ hcmp (fun x hx => hD x (hpt.perm.mem_iff.1 (hsd1.perm.mem_iff.1 hx))) ((a + b) / 2) ((a + b) / 2 + m - s) b (by omega) hN (by omega) (hpt.mg2 hsd1 (by omega) (by omega)) (by omega) w _)) ?_
 intro us hsd2
 refine s_end ?_
 refine q_take [0] rfl (by decide) ?_
 exact q_post_n rfl .nil (hX _ (hpt.done hsd1 hsd2 (by omega)))
 have h21_d := of_decide_eq_false h21_
 refine c_skip rfl ?_
 have hsd2 : Sd key ((a + b) / 2) b ys ys := hpt.sd2 hsd1 (by omega)
 refine q_take [0] rfl (by decide) ?_
 exact q_post_n rfl .nil (hX _ (hpt.done hsd1 hsd2 (by omega)))
 have h20_d := of_decide_eq_false h20_
 refine s_no rfl rfl rfl rfl ?_
 refine s_no rfl rfl rfl rfl ?_
 refine s_no rfl rfl rfl rfl ?_
 refine s_v rfl rfl rfl rfl (v_pick rfl rfl rfl rfl) ?_
 refine s_end ?_
 refine q_seq ?_
 refine c_cond0 rfl rfl ?_
 refine c_skip rfl ?_
 have hsd2 : Sd key ((a + b) / 2) b ys ys := hpt.sd2 hsd1 (by omega)
 refine q_take [0] rfl (by decide) ?_
 exact q_post_n rfl .nil (hX _ (hpt.done hsd1 hsd2 (by omega)))
 have h13_d := of_decide_eq_false h13_
 refine c_skip rfl ?_
 refine q_seq ?_
 refine c_seq rfl ?_
 refine c_seq rfl ?_
 have hpt : Pt key xs a m b s xs := Pt.none hm hbd hs (by omega)
 have hys := hpt.perm.length_eq
 refine r_ord (l := [0, 1, 2, 3, 4, 5, 6, 7]) rfl (by kernel_rfl) (by kernel_rfl) ?_
 refine s_v rfl rfl rfl rfl (v_mv rfl rfl) ?_
 refine s_v rfl rfl rfl rfl (v_mv rfl rfl) ?_
 refine s_v rfl rfl rfl rfl (v_ar rfl rfl rfl rfl) ?_
 refine s_v rfl rfl rfl rfl (v_mv rfl rfl) ?_
 refine s_splitv (d := 195) (t := decide (((a : Int) : Int) < (s : Int))) rfl (fun h22_ => ?_) (fun h22_ => ?_)
 have h22_d := of_decide_eq_true h22_
 refine s_vg rfl rfl rfl rfl (v_mv rfl rfl) ?_
 refine s_vg rfl rfl rfl rfl (v_mv rfl rfl) ?_
 refine s_vg rfl rfl rfl rfl (v_ar rfl rfl rfl rfl) ?_
 refine s_v rfl rfl rfl rfl (v_pick rfl rfl rfl rfl) ?_
 refine s_end ?_
 refine q_seq ?_
 refine c_cond (t := decide (((s : Int) : Int) < (((a + b) / 2 : Nat) : Int))) rfl rfl (fun h23_ => ?_) (fun h23_ => ?_)
 have h23_d := of_decide_eq_true h23_
 refine r_ord (l := [0, 1, 2, 3, 4, 5]) rfl (by kernel_rfl) (by kernel_rfl) ?_
 refine s_v rfl rfl rfl rfl (v_mv rfl rfl) ?_
 refine s_v rfl rfl rfl rfl (v_mv rfl rfl) ?_
 refine s_v rfl rfl rfl rfl (v_mv rfl rfl) ?_
 refine s_v rfl rfl rfl rfl (v_mv rfl rfl) ?_
 refine s_v rfl rfl rfl rfl (v_mv rfl rfl) ?_
 refine s_dup 1 rfl ?_
 refine s_e rfl rfl (e_call [1, 0] [2] #[.slice (some ⟨g, 0, none⟩) n cap, .int .i64 (a : Int), .int .i64 (s : Int), .int .i64 (((a + b) / 2 : Nat) : Int), .func (.func 27) #[] #[.pointer (some ⟨bl, 0, none⟩)]] rfl rfl rfl rfl rfl Try.func67 rfl (by decide) rfl rfl rfl rfl (by decide) (fun w ht => ih g n cap xs rest bl nl key Φ hcmp (fun x hx => hD x (hpt.perm.mem_iff.1 hx)) a s ((a + b) / 2) (hys.trans hn) hN (by omega) (hpt.mg1 (by omega) (by omega)) (by omega) w _)) ?_
 intro zs hsd1
 refine s_end ?_
 refine q_seq ?_
 refine c_seq rfl ?_
 have hzs := hsd1.len
 refine r_ord (l := [0, 1, 2, 3, 4, 5, 6, 7]) rfl (by kernel_rfl) (by kernel_rfl) ?_
 refine s_v rfl rfl rfl rfl (v_mv rfl rfl) ?_
 refine s_v rfl rfl rfl rfl (v_mv rfl rfl) ?_
 refine s_v rfl rfl rfl rfl (v_ar rfl rfl rfl rfl) ?_
 refine s_v rfl rfl rfl rfl (v_mv rfl rfl) ?_
 refine s_splitv (d := 209) (t := decide (((((a + b) / 2 : Nat) : Int) : Int) < (((((a + b) / 2) + m) - s : Nat) : Int))) rfl (fun h24_ => ?_) (fun h24_ => ?_)
 have h24_d := of_decide_eq_true h24_
 refine s_vg rfl rfl rfl rfl (v_mv rfl rfl) ?_
 refine s_vg rfl rfl rfl rfl (v_mv rfl rfl) ?_
 refine s_vg rfl rfl rfl rfl (v_ar rfl rfl rfl rfl) ?_
 refine s_v rfl rfl rfl rfl (v_pick rfl rfl rfl rfl) ?_
 refine s_end ?_
 refine q_seq ?_
 refine c_cond (t := decide (((((((a + b) / 2) + m) - s : Nat) : Int) : Int) < (b : Int))) rfl rfl (fun h25_ => ?_) (fun h25_ => ?_)
 have h25_d := of_decide_eq_true h25_
 refine r_ord (l := [0, 1, 2, 3, 4, 5]) rfl (by kernel_rfl) (by kernel_rfl) ?_
 refine s_v rfl rfl rfl rfl (v_mv rfl rfl) ?_
 refine s_v rfl rfl rfl rfl (v_mv rfl rfl) ?_
 refine s_v rfl rfl rfl rfl (v_mv rfl rfl) ?_
 refine s_v rfl rfl rfl rfl (v_mv rfl rfl) ?_
 refine s_v rfl rfl rfl rfl (v_mv rfl rfl) ?_
 refine s_dup 1 rfl ?_
 refine s_e rfl rfl (e_call [1, 0] [2] #[.slice (some ⟨g, 0, none⟩) n cap, .int .i64 (((a + b) / 2 : Nat) : Int), .int .i64 (((((a + b) / 2) + m) - s : Nat) : Int), .int .i64 (b : Int), .func (.func 27) #[] #[.pointer (some ⟨bl, 0, none⟩)]] rfl rfl rfl rfl rfl Try.func67 rfl (by decide) rfl rfl rfl rfl (by decide) (fun w ht => ih g n cap zs rest bl nl key Φ hcmp (fun x hx => hD x (hpt.perm.mem_iff.1 (hsd1.perm.mem_iff.1 hx))) ((a + b) / 2) ((a + b) / 2 + m - s) b (by omega) hN (by omega) (hpt.mg2 hsd1 (by omega) (by omega)) (by omega) w _)) ?_
 intro us hsd2
 refine s_end ?_
 refine q_take [0] rfl (by decide) ?_
 exact q_post_n rfl .nil (hX _ (hpt.done hsd1 hsd2 (by omega)))
 have h25_d := of_decide_eq_false h25_
 refine c_skip rfl ?_
 have hsd2 : Sd key ((a + b) / 2) b zs zs := hpt.sd2 hsd1 (by omega)
 refine q_take [0] rfl (by decide) ?_
 exact q_post_n rfl .nil (hX _ (hpt.done hsd1 hsd2 (by omega)))
 have h24_d := of_decide_eq_false h24_
 refine s_no rfl rfl rfl rfl ?_
 refine s_no rfl rfl rfl rfl ?_
 refine s_no rfl rfl rfl rfl ?_
 refine s_v rfl rfl rfl rfl (v_pick rfl rfl rfl rfl) ?_
 refine s_end ?_
 refine q_seq ?_
 refine c_cond0 rfl rfl ?_
 refine c_skip rfl ?_
 have hsd2 : Sd key ((a + b) / 2) b zs zs := hpt.sd2 hsd1 (by omega)
 refine q_take [0] rfl (by decide) ?_
 exact q_post_n rfl .nil (hX _ (hpt.done hsd1 hsd2 (by omega)))
 have h23_d := of_decide_eq_false h23_
 refine c_skip rfl ?_
 refine q_seq ?_
 refine c_seq rfl ?_
 have hsd1 : Sd key a ((a + b) / 2) xs xs := hpt.sd1 (by omega)
 have hzs := hsd1.len
 refine r_ord (l := [0, 1, 2, 3, 4, 5, 6, 7]) rfl (by kernel_rfl) (by kernel_rfl) ?_
 refine s_v rfl rfl rfl rfl (v_mv rfl rfl) ?_
 refine s_v rfl rfl rfl rfl (v_mv rfl rfl) ?_
 refine s_v rfl rfl rfl rfl (v_ar rfl rfl rfl rfl) ?_
 refine s_v rfl rfl rfl rfl (v_mv rfl rfl) ?_
 refine s_splitv (d := 209) (t := decide (((((a + b) / 2 : Nat) : Int) : Int) < (((((a + b) / 2) + m) - s : Nat) : Int))) rfl (fun h26_ => ?_) (fun h26_ => ?_)
 have h26_d := of_decide_eq_true h26_
 refine s_vg rfl rfl rfl rfl (v_mv rfl rfl) ?_
 refine s_vg rfl rfl rfl rfl (v_mv rfl rfl) ?_
 refine s_vg rfl rfl rfl rfl (v_ar rfl rfl rfl rfl) ?_
 refine s_v rfl rfl rfl rfl (v_pick rfl rfl rfl rfl) ?_
 refine s_end ?_
 refine q_seq ?_
 refine c_cond (t := decide (((((((a + b) / 2) + m) - s : Nat) : Int) : Int) < (b : Int))) rfl rfl (fun h27_ => ?_) (fun h27_ => ?_)
 have h27_d := of_decide_eq_true h27_
 refine r_ord (l := [0, 1, 2, 3, 4, 5]) rfl (by kernel_rfl) (by kernel_rfl) ?_
 refine s_v rfl rfl rfl rfl (v_mv rfl rfl) ?_
 refine s_v rfl rfl rfl rfl (v_mv rfl rfl) ?_
 refine s_v rfl rfl rfl rfl (v_mv rfl rfl) ?_
 refine s_v rfl rfl rfl rfl (v_mv rfl rfl) ?_
 refine s_v rfl rfl rfl rfl (v_mv rfl rfl) ?_
 refine s_dup 1 rfl ?_
 refine s_e rfl rfl (e_call [1, 0] [2] #[.slice (some ⟨g, 0, none⟩) n cap, .int .i64 (((a + b) / 2 : Nat) : Int), .int .i64 (((((a + b) / 2) + m) - s : Nat) : Int), .int .i64 (b : Int), .func (.func 27) #[] #[.pointer (some ⟨bl, 0, none⟩)]] rfl rfl rfl rfl rfl Try.func67 rfl (by decide) rfl rfl rfl rfl (by decide) (fun w ht => ih g n cap xs rest bl nl key Φ hcmp (fun x hx => hD x (hpt.perm.mem_iff.1 (hsd1.perm.mem_iff.1 hx))) ((a + b) / 2) ((a + b) / 2 + m - s) b (by omega) hN (by omega) (hpt.mg2 hsd1 (by omega) (by omega)) (by omega) w _)) ?_
 intro us hsd2
 refine s_end ?_
 refine q_take [0] rfl (by decide) ?_
 exact q_post_n rfl .nil (hX _ (hpt.done hsd1 hsd2 (by omega)))
 have h27_d := of_decide_eq_false h27_
 refine c_skip rfl ?_
 have hsd2 : Sd key ((a + b) / 2) b xs xs := hpt.sd2 hsd1 (by omega)
 refine q_take [0] rfl (by decide) ?_
 exact q_post_n rfl .nil (hX _ (hpt.done hsd1 hsd2 (by omega)))
 have h26_d := of_decide_eq_false h26_
 refine s_no rfl rfl rfl rfl ?_
 refine s_no rfl rfl rfl rfl ?_
 refine s_no rfl rfl rfl rfl ?_
 refine s_v rfl rfl rfl rfl (v_pick rfl rfl rfl rfl) ?_
 refine s_end ?_
 refine q_seq ?_
 refine c_cond0 rfl rfl ?_
 refine c_skip rfl ?_
 have hsd2 : Sd key ((a + b) / 2) b xs xs := hpt.sd2 hsd1 (by omega)
 refine q_take [0] rfl (by decide) ?_
 exact q_post_n rfl .nil (hX _ (hpt.done hsd1 hsd2 (by omega)))
 have h22_d := of_decide_eq_false h22_
 refine s_no rfl rfl rfl rfl ?_
 refine s_no rfl rfl rfl rfl ?_
 refine s_no rfl rfl rfl rfl ?_
 refine s_v rfl rfl rfl rfl (v_pick rfl rfl rfl rfl) ?_
 refine s_end ?_
 refine q_seq ?_
 refine c_cond0 rfl rfl ?_
 refine c_skip rfl ?_
 refine q_seq ?_
 refine c_seq rfl ?_
 have hsd1 : Sd key a ((a + b) / 2) xs xs := hpt.sd1 (by omega)
 have hzs := hsd1.len
 refine r_ord (l := [0, 1, 2, 3, 4, 5, 6, 7]) rfl (by kernel_rfl) (by kernel_rfl) ?_
 refine s_v rfl rfl rfl rfl (v_mv rfl rfl) ?_
 refine s_v rfl rfl rfl rfl (v_mv rfl rfl) ?_
 refine s_v rfl rfl rfl rfl (v_ar rfl rfl rfl rfl) ?_
 refine s_v rfl rfl rfl rfl (v_mv rfl rfl) ?_
 refine s_splitv (d := 209) (t := decide (((((a + b) / 2 : Nat) : Int) : Int) < (((((a + b) / 2) + m) - s : Nat) : Int))) rfl (fun h28_ => ?_) (fun h28_ => ?_)
 have h28_d := of_decide_eq_true h28_
 refine s_vg rfl rfl rfl rfl (v_mv rfl rfl) ?_
 refine s_vg rfl rfl rfl rfl (v_mv rfl rfl) ?_
 refine s_vg rfl rfl rfl rfl (v_ar rfl rfl rfl rfl) ?_
 refine s_v rfl rfl rfl rfl (v_pick rfl rfl rfl rfl) ?_
 refine s_end ?_
 refine q_seq ?_
 refine c_cond (t := decide (((((((a + b) / 2) + m) - s : Nat) : Int) : Int) < (b : Int))) rfl rfl (fun h29_ => ?_) (fun h29_ => ?_)
 have h29_d := of_decide_eq_true h29_
 refine r_ord (l := [0, 1, 2, 3, 4, 5]) rfl (by kernel_rfl) (by kernel_rfl) ?_
 refine s_v rfl rfl rfl rfl (v_mv rfl rfl) ?_
 refine s_v rfl rfl rfl rfl (v_mv rfl rfl) ?_
 refine s_v rfl rfl rfl rfl (v_mv rfl rfl) ?_
 refine s_v rfl rfl rfl rfl (v_mv rfl rfl) ?_
 refine s_v rfl rfl rfl rfl (v_mv rfl rfl) ?_
 refine s_dup 1 rfl ?_
 refine s_e rfl rfl (e_call [1, 0] [2] #[.slice (some ⟨g, 0, none⟩) n cap, .int .i64 (((a + b) / 2 : Nat) : Int), .int .i64 (((((a + b) / 2) + m) - s : Nat) : Int), .int .i64 (b : Int), .func (.func 27) #[] #[.pointer (some ⟨bl, 0, none⟩)]] rfl rfl rfl rfl rfl Try.func67 rfl (by decide) rfl rfl rfl rfl (by decide) (fun w ht => ih g n cap xs rest bl nl key Φ hcmp (fun x hx => hD x (hpt.perm.mem_iff.1 (hsd1.perm.mem_iff.1 hx))) ((a + b) / 2) ((a + b) / 2 + m - s) b (by omega) hN (by omega) (hpt.mg2 hsd1 (by omega) (by omega)) (by omega) w _)) ?_
 intro us hsd2
 refine s_end ?_
 refine q_take [0] rfl (by decide) ?_
 exact q_post_n rfl .nil (hX _ (hpt.done hsd1 hsd2 (by omega)))
 have h29_d := of_decide_eq_false h29_
 refine c_skip rfl ?_
 have hsd2 : Sd key ((a + b) / 2) b xs xs := hpt.sd2 hsd1 (by omega)
 refine q_take [0] rfl (by decide) ?_
 exact q_post_n rfl .nil (hX _ (hpt.done hsd1 hsd2 (by omega)))
 have h28_d := of_decide_eq_false h28_
 refine s_no rfl rfl rfl rfl ?_
 refine s_no rfl rfl rfl rfl ?_
 refine s_no rfl rfl rfl rfl ?_
 refine s_v rfl rfl rfl rfl (v_pick rfl rfl rfl rfl) ?_
 refine s_end ?_
 refine q_seq ?_
 refine c_cond0 rfl rfl ?_
 refine c_skip rfl ?_
 have hsd2 : Sd key ((a + b) / 2) b xs xs := hpt.sd2 hsd1 (by omega)
 refine q_take [0] rfl (by decide) ?_
 exact q_post_n rfl .nil (hX _ (hpt.done hsd1 hsd2 (by omega)))
 have h12_d := of_decide_eq_false h12_
 refine s_no rfl rfl rfl rfl ?_
 refine s_no rfl rfl rfl rfl ?_
 refine s_no rfl rfl rfl rfl ?_
 refine s_v rfl rfl rfl rfl (v_pick rfl rfl rfl rfl) ?_
 refine s_end ?_
 refine q_seq ?_
 refine c_cond0 rfl rfl ?_
 refine c_skip rfl ?_
 refine q_seq ?_
 refine c_seq rfl ?_
 refine c_seq rfl ?_
 have hpt : Pt key xs a m b s xs := Pt.none hm hbd hs (by omega)
 have hys := hpt.perm.length_eq
 refine r_ord (l := [0, 1, 2, 3, 4, 5, 6, 7]) rfl (by kernel_rfl) (by kernel_rfl) ?_
 refine s_v rfl rfl rfl rfl (v_mv rfl rfl) ?_
 refine s_v rfl rfl rfl rfl (v_mv rfl rfl) ?_
 refine s_v rfl rfl rfl rfl (v_ar rfl rfl rfl rfl) ?_
 refine s_v rfl rfl rfl rfl (v_mv rfl rfl) ?_
 refine s_splitv (d := 195) (t := decide (((a : Int) : Int) < (s : Int))) rfl (fun h30_ => ?_) (fun h30_ => ?_)
 have h30_d := of_decide_eq_true h30_
 refine s_vg rfl rfl rfl rfl (v_mv rfl rfl) ?_
 refine s_vg rfl rfl rfl rfl (v_mv rfl rfl) ?_
 refine s_vg rfl rfl rfl rfl (v_ar rfl rfl rfl rfl) ?_
 refine s_v rfl rfl rfl rfl (v_pick rfl rfl rfl rfl) ?_
 refine s_end ?_
 refine q_seq ?_
 refine c_cond (t := decide (((s : Int) : Int) < (((a + b) / 2 : Nat) : Int))) rfl rfl (fun h31_ => ?_) (fun h31_ => ?_)
 have h31_d := of_decide_eq_true h31_
 refine r_ord (l := [0, 1, 2, 3, 4, 5]) rfl (by kernel_rfl) (by kernel_rfl) ?_
 refine s_v rfl rfl rfl rfl (v_mv rfl rfl) ?_
 refine s_v rfl rfl rfl rfl (v_mv rfl rfl) ?_
 refine s_v rfl rfl rfl rfl (v_mv rfl rfl) ?_
 refine s_v rfl rfl rfl rfl (v_mv rfl rfl) ?_
 refine s_v rfl rfl rfl rfl (v_mv rfl rfl) ?_
 refine s_dup 1 rfl ?_
 refine s_e rfl rfl (e_call [1, 0] [2] #[.slice (some ⟨g, 0, none⟩) n cap, .int .i64 (a : Int), .int .i64 (s : Int), .int .i64 (((a + b) / 2 : Nat) : Int), .func (.func 27) #[] #[.pointer (some ⟨bl, 0, none⟩)]] rfl rfl rfl rfl rfl Try.func67 rfl (by decide) rfl rfl rfl rfl (by decide) (fun w ht => ih g n cap xs rest bl nl key Φ hcmp (fun x hx => hD x (hpt.perm.mem_iff.1 hx)) a s ((a + b) / 2) (hys.trans hn) hN (by omega) (hpt.mg1 (by omega) (by omega)) (by omega) w _)) ?_
 intro zs hsd1
 refine s_end ?_
 refine q_seq ?_
 refine c_seq rfl ?_
 have hzs := hsd1.len
 refine r_ord (l := [0, 1, 2, 3, 4, 5, 6, 7]) rfl (by kernel_rfl) (by kernel_rfl) ?_
 refine s_v rfl rfl rfl rfl (v_mv rfl rfl) ?_
 refine s_v rfl rfl rfl rfl (v_mv rfl rfl) ?_
 refine s_v rfl rfl rfl rfl (v_ar rfl rfl rfl rfl) ?_
 refine s_v rfl rfl rfl rfl (v_mv rfl rfl) ?_
 refine s_splitv (d := 209) (t := decide (((((a + b) / 2 : Nat) : Int) : Int) < (((((a + b) / 2) + m) - s : Nat) : Int))) rfl (fun h32_ => ?_) (fun h32_ => ?_)
 have h32_d := of_decide_eq_true h32_
 refine s_vg rfl rfl rfl rfl (v_mv rfl rfl) ?_
 refine s_vg rfl rfl rfl rfl (v_mv rfl rfl) ?_
 refine s_vg rfl rfl rfl rfl (v_ar rfl rfl rfl rfl) ?_
 refine s_v rfl rfl rfl rfl (v_pick rfl rfl rfl rfl) ?_
 refine s_end ?_
 refine q_seq ?_
 refine c_cond (t := decide (((((((a + b) / 2) + m) - s : Nat) : Int) : Int) < (b : Int))) rfl rfl (fun h33_ => ?_) (fun h33_ => ?_)
 have h33_d := of_decide_eq_true h33_
 refine r_ord (l := [0, 1, 2, 3, 4, 5]) rfl (by kernel_rfl) (by kernel_rfl) ?_
 refine s_v rfl rfl rfl rfl (v_mv rfl rfl) ?_
 refine s_v rfl rfl rfl rfl (v_mv rfl rfl) ?_
 refine s_v rfl rfl rfl rfl (v_mv rfl rfl) ?_
 refine s_v rfl rfl rfl rfl (v_mv rfl rfl) ?_
 refine s_v rfl rfl rfl rfl (v_mv rfl rfl) ?_
 refine s_dup 1 rfl ?_
 refine s_e rfl rfl (e_call [1, 0] [2] #[.slice (some ⟨g, 0, none⟩) n cap, .int .i64 (((a + b) / 2 : Nat) : Int), .int .i64 (((((a + b) / 2) + m) - s : Nat) : Int), .int .i64 (b : Int), .func (.func 27) #[] #[.pointer (some ⟨bl, 0, none⟩)]] rfl rfl rfl rfl rfl Try.func67 rfl (by decide) rfl rfl rfl rfl (by decide) (fun w ht => ih g n cap zs rest bl nl key Φ hcmp (fun x hx => hD x (hpt.perm.mem_iff.1 (hsd1.perm.mem_iff.1 hx))) ((a + b) / 2) ((a + b) / 2 + m - s) b (by omega) hN (by omega) (hpt.mg2 hsd1 (by omega) (by omega)) (by omega) w _)) ?_
 intro us hsd2
 refine s_end ?_
 refine q_take [0] rfl (by decide) ?_
 exact q_post_n rfl .nil (hX _ (hpt.done hsd1 hsd2 (by omega)))
 have h33_d := of_decide_eq_false h33_
 refine c_skip rfl ?_
 have hsd2 : Sd key ((a + b) / 2) b zs zs := hpt.sd2 hsd1 (by omega)
 refine q_take [0] rfl (by decide) ?_
 exact q_post_n rfl .nil (hX _ (hpt.done hsd1 hsd2 (by omega)))
 have h32_d := of_decide_eq_false h32_
 refine s_no rfl rfl rfl rfl ?_
 refine s_no rfl rfl rfl rfl ?_
 refine s_no rfl rfl rfl rfl ?_
 refine s_v rfl rfl rfl rfl (v_pick rfl rfl rfl rfl) ?_
 refine s_end ?_
 refine q_seq ?_
 refine c_cond0 rfl rfl ?_
 refine c_skip rfl ?_
 have hsd2 : Sd key ((a + b) / 2) b zs zs := hpt.sd2 hsd1 (by omega)
 refine q_take [0] rfl (by decide) ?_
 exact q_post_n rfl .nil (hX _ (hpt.done hsd1 hsd2 (by omega)))
 have h31_d := of_decide_eq_false h31_
 refine c_skip rfl ?_
 refine q_seq ?_
 refine c_seq rfl ?_
 have hsd1 : Sd key a ((a + b) / 2) xs xs := hpt.sd1 (by omega)
 have hzs := hsd1.len
 refine r_ord (l := [0, 1, 2, 3, 4, 5, 6, 7]) rfl (by kernel_rfl) (by kernel_rfl) ?_
 refine s_v rfl rfl rfl rfl (v_mv rfl rfl) ?_
 refine s_v rfl rfl rfl rfl (v_mv rfl rfl) ?_
 refine s_v rfl rfl rfl rfl (v_ar rfl rfl rfl rfl) ?_
 refine s_v rfl rfl rfl rfl (v_mv rfl rfl) ?_
 refine s_splitv (d := 209) (t := decide (((((a + b) / 2 : Nat) : Int) : Int) < (((((a + b) / 2) + m) - s : Nat) : Int))) rfl (fun h34_ => ?_) (fun h34_ => ?_)
 have h34_d := of_decide_eq_true h34_
 refine s_vg rfl rfl rfl rfl (v_mv rfl rfl) ?_
 refine s_vg rfl rfl rfl rfl (v_mv rfl rfl) ?_
 refine s_vg rfl rfl rfl rfl (v_ar rfl rfl rfl rfl) ?_
 refine s_v rfl rfl rfl rfl (v_pick rfl rfl rfl rfl) ?_
 refine s_end ?_
 refine q_seq ?_
 refine c_cond (t := decide (((((((a + b) / 2) + m) - s : Nat) : Int) : Int) < (b : Int))) rfl rfl (fun h35_ => ?_) (fun h35_ => ?_)
 have h35_d := of_decide_eq_true h35_
 refine r_ord (l := [0, 1, 2, 3, 4, 5]) rfl (by kernel_rfl) (by kernel_rfl) ?_
 refine s_v rfl rfl rfl rfl (v_mv rfl rfl) ?_
 refine s_v rfl rfl rfl rfl (v_mv rfl rfl) ?_
 refine s_v rfl rfl rfl rfl (v_mv rfl rfl) ?_
 refine s_v rfl rfl rfl rfl (v_mv rfl rfl) ?_
 refine s_v rfl rfl rfl rfl (v_mv rfl rfl) ?_
 refine s_dup 1 rfl ?_
 refine s_e rfl rfl (e_call [1, 0] [2] #[.slice (some ⟨g, 0, none⟩) n cap, .int .i64 (((a + b) / 2 : Nat) : Int), .int .i64 (((((a + b) / 2) + m) - s : Nat) : Int), .int .i64 (b : Int), .func (.func 27) #[] #[.pointer (some ⟨bl, 0, none⟩)]] rfl rfl rfl rfl rfl Try.func67 rfl (by decide) rfl rfl rfl rfl (by decide) (fun w ht => ih g n cap xs rest bl nl key Φ hcmp (fun x hx => hD x (hpt.perm.mem_iff.1 (hsd1.perm.mem_iff.1 hx))) ((a + b) / 2) ((a + b) / 2 + m - s) b (by omega) hN (by omega) (hpt.mg2 hsd1 (by omega) (by omega)) (by omega) w _)) ?_
 intro us hsd2
 refine s_end ?_
 refine q_take [0] rfl (by decide) ?_
 exact q_post_n rfl .nil (hX _ (hpt.done hsd1 hsd2 (by omega)))
 have h35_d := of_decide_eq_false h35_
 refine c_skip rfl ?_
 have hsd2 : Sd key ((a + b) / 2) b xs xs := hpt.sd2 hsd1 (by omega)
 refine q_take [0] rfl (by decide) ?_
 exact q_post_n rfl .nil (hX _ (hpt.done hsd1 hsd2 (by omega)))
 have h34_d := of_decide_eq_false h34_
 refine s_no rfl rfl rfl rfl ?_
 refine s_no rfl rfl rfl rfl ?_
 refine s_no rfl rfl rfl rfl ?_
 refine s_v rfl rfl rfl rfl (v_pick rfl rfl rfl rfl) ?_
 refine s_end ?_
 refine q_seq ?_
 refine c_cond0 rfl rfl ?_
 refine c_skip rfl ?_
 have hsd2 : Sd key ((a + b) / 2) b xs xs := hpt.sd2 hsd1 (by omega)
 refine q_take [0] rfl (by decide) ?_
 exact q_post_n rfl .nil (hX _ (hpt.done hsd1 hsd2 (by omega)))
 have h30_d := of_decide_eq_false h30_
 refine s_no rfl rfl rfl rfl ?_
 refine s_no rfl rfl rfl rfl ?_
 refine s_no rfl rfl rfl rfl ?_
 refine s_v rfl rfl rfl rfl (v_pick rfl rfl rfl rfl) ?_
 refine s_end ?_
 refine q_seq ?_
 refine c_cond0 rfl rfl ?_
 refine c_skip rfl ?_
 refine q_seq ?_
 refine c_seq rfl ?_
 have hsd1 : Sd key a ((a + b) / 2) xs xs := hpt.sd1 (by omega)
 have hzs := hsd1.len
 refine r_ord (l := [0, 1, 2, 3, 4, 5, 6, 7]) rfl (by kernel_rfl) (by kernel_rfl) ?_
 refine s_v rfl rfl rfl rfl (v_mv rfl rfl) ?_
 refine s_v rfl rfl rfl rfl (v_mv rfl rfl) ?_
 refine s_v rfl rfl rfl rfl (v_ar rfl rfl rfl rfl) ?_
 refine s_v rfl rfl rfl rfl (v_mv rfl rfl) ?_
 refine s_splitv (d := 209) (t := decide (((((a + b) / 2 : Nat) : Int) : Int) < (((((a + b) / 2) + m) - s : Nat) : Int))) rfl (fun h36_ => ?_) (fun h36_ => ?_)
 have h36_d := of_decide_eq_true h36_
 refine s_vg rfl rfl rfl rfl (v_mv rfl rfl) ?_
 refine s_vg rfl rfl rfl rfl (v_mv rfl rfl) ?_
 refine s_vg rfl rfl rfl rfl (v_ar rfl rfl rfl rfl) ?_
 refine s_v rfl rfl rfl rfl (v_pick rfl rfl rfl rfl) ?_
 refine s_end ?_
 refine q_seq ?_
 refine c_cond (t := decide (((((((a + b) / 2) + m) - s : Nat) : Int) : Int) < (b : Int))) rfl rfl (fun h37_ => ?_) (fun h37_ => ?_)
 have h37_d := of_decide_eq_true h37_
 refine r_ord (l := [0, 1, 2, 3, 4, 5]) rfl (by kernel_rfl) (by kernel_rfl) ?_
 refine s_v rfl rfl rfl rfl (v_mv rfl rfl) ?_
 refine s_v rfl rfl rfl rfl (v_mv rfl rfl) ?_
 refine s_v rfl rfl rfl rfl (v_mv rfl rfl) ?_
 refine s_v rfl rfl rfl rfl (v_mv rfl rfl) ?_
 refine s_v rfl rfl rfl rfl (v_mv rfl rfl) ?_
 refine s_dup 1 rfl ?_
 refine s_e rfl rfl (e_call [1, 0] [2] #[.slice (some ⟨g, 0, none⟩) n cap, .int .i64 (((a + b) / 2 : Nat) : Int), .int .i64 (((((a + b) / 2) + m) - s : Nat) : Int), .int .i64 (b : Int), .func (.func 27) #[] #[.pointer (some ⟨bl, 0, none⟩)]] rfl rfl rfl rfl rfl Try.func67 rfl (by decide) rfl rfl rfl rfl (by decide) (fun w ht => ih g n cap xs rest bl nl key Φ hcmp (fun x hx => hD x (hpt.perm.mem_iff.1 (hsd1.perm.mem_iff.1 hx))) ((a + b) / 2) ((a + b) / 2 + m - s) b (by omega) hN (by omega) (hpt.mg2 hsd1 (by omega) (by omega)) (by omega) w _)) ?_
 intro us hsd2
 refine s_end ?_
 refine q_take [0] rfl (by decide) ?_
 exact q_post_n rfl .nil (hX _ (hpt.done hsd1 hsd2 (by omega)))
 have h37_d := of_decide_eq_false h37_
 refine c_skip rfl ?_
 have hsd2 : Sd key ((a + b) / 2) b xs xs := hpt.sd2 hsd1 (by omega)
 refine q_take [0] rfl (by decide) ?_
 exact q_post_n rfl .nil (hX _ (hpt.done hsd1 hsd2 (by omega)))
 have h36_d := of_decide_eq_false h36_
 refine s_no rfl rfl rfl rfl ?_
 refine s_no rfl rfl rfl rfl ?_
 refine s_no rfl rfl rfl rfl ?_
 refine s_v rfl rfl rfl rfl (v_pick rfl rfl rfl rfl) ?_
 refine s_end ?_
 refine q_seq ?_
 refine c_cond0 rfl rfl ?_
 refine c_skip rfl ?_
 have hsd2 : Sd key ((a + b) / 2) b xs xs := hpt.sd2 hsd1 (by omega)
 refine q_take [0] rfl (by decide) ?_
 exact q_post_n rfl .nil (hX _ (hpt.done hsd1 hsd2 (by omega)))
 have h9_d := of_decide_eq_false h9_
 refine c_seq rfl ?_
 refine r_ord (l := [0, 1]) rfl (by kernel_rfl) (by kernel_rfl) ?_
 refine s_v rfl rfl rfl rfl (v_mv rfl rfl) ?_
 refine s_v rfl rfl rfl rfl (v_as rfl rfl) ?_
 refine s_end ?_
 refine q_seq ?_
 refine r_ord (l := [0, 1]) rfl (by kernel_rfl) (by kernel_rfl) ?_
 refine s_v rfl rfl rfl rfl (v_mv rfl rfl) ?_
 refine s_v rfl rfl rfl rfl (v_as rfl rfl) ?_
 refine s_end ?_
 refine q_seq ?_
 refine c_seq rfl ?_
 refine r_ord (l := [0, 1, 2]) rfl (by kernel_rfl) (by kernel_rfl) ?_
 refine s_v rfl rfl rfl rfl (v_mv rfl rfl) ?_
 refine s_v rfl rfl rfl rfl (OpV.cast (v := .int .i64 (((((a + b) / 2) + m) - 1 : Nat) : Int)) (v_ar rfl rfl rfl rfl) (subN (a := ((a + b) / 2) + m) (b := 1) (by first | omega | (simp [swr_len, swp_len] <;> omega)) (by first | omega | (simp [swr_len, swp_len] <;> omega)))) ?_
 refine s_v rfl rfl rfl rfl (v_as rfl rfl) ?_
 refine s_end ?_
 refine q_seq ?_
 refine c_seq rfl ?_
 refine c_block rfl ?_
 have hbd : Bd a m b a m := Bd.small (by omega) (by omega) (by omega)
 refine c_loop (σ := (Nat × Nat)) (fun s : Nat × Nat => match s with | (s, r) => BsC key xs a m b a m s r) (fun s : Nat × Nat => match s with | (s, r) => r - s) (fun s : Nat × Nat => match s with | (s, r) => [(0, .slice (some ⟨g, 0, none⟩) n cap), (1, .int .i64 (a : Int)), (2, .int .i64 (m : Int)), (3, .int .i64 (b : Int)), (4, .func (.func 27) #[] #[.pointer (some ⟨bl, 0, none⟩)]), (18, .int .i64 (((a + b) / 2 : Nat) : Int)), (19, .int .i64 ((((a + b) / 2) + m : Nat) : Int)), (22, .int .i64 (((((a + b) / 2) + m) - 1 : Nat) : Int)), (20, .int .i64 (s : Int)), (21, .int .i64 (r : Int))]) (fun s : Nat × Nat => match s with | (s, r) => [.b g (.cells (RowI .i64 xs rest) 3 (0, 0)), .f (Φ)]) (a, m) [0, 1] rfl (BsC.start hbd) (subF_spec ⟨rfl, rfl, rfl, rfl, rfl, rfl, rfl, rfl, rfl, rfl, trivial⟩) rfl (by decide) ?_
 rintro ⟨s, r⟩ hs
 have hs : BsC key xs a m b a m s r := hs
 have h_1 := hs.los
 have h_2 := hs.sr
 have h_3 := hs.rhi
 have h_4 := hbd.alo
 have h_5 := hbd.him
 have h_6 := hbd.sum
 have h_7 := hbd.top
 refine c_seq rfl ?_
 refine c_seq rfl ?_
 refine r_ord (l := [0, 1, 2]) rfl (by kernel_rfl) (by kernel_rfl) ?_
 refine s_v rfl rfl rfl rfl (v_mv rfl rfl) ?_
 refine s_v rfl rfl rfl rfl (v_mv rfl rfl) ?_
 refine s_v rfl rfl rfl rfl (v_ar rfl rfl rfl rfl) ?_
 refine s_end ?_
 refine q_seq ?_
 refine c_cond (t := decide (((s : Int) : Int) < (r : Int))) rfl rfl (fun h38_ => ?_) (fun h38_ => ?_)
 have h38_d := of_decide_eq_true h38_
 refine c_skip rfl ?_
 refine q_seq ?_
 refine c_block rfl ?_
 refine c_seq rfl ?_
 refine r_ord (l := [0, 1, 2, 3, 4, 5, 6]) rfl (by kernel_rfl) (by kernel_rfl) ?_
 refine s_v rfl rfl rfl rfl (v_mv rfl rfl) ?_
 refine s_v rfl rfl rfl rfl (v_mv rfl rfl) ?_
 refine s_v rfl rfl rfl rfl (OpV.cast (v := .int .i64 ((s + r : Nat) : Int)) (v_ar rfl rfl rfl rfl) (addN (a := s) (b := r) (by first | omega | (simp [swr_len, swp_len] <;> omega)))) ?_
 refine s_v rfl rfl rfl rfl (OpV.cast (v := .int .u64 ((s + r : Nat) : Int)) (v_conv rfl Try.underlying3 Try.underlying101 rfl) (cuN (a := s + r) (by first | omega | (simp [swr_len, swp_len] <;> omega)))) ?_
 refine s_v rfl rfl rfl rfl (OpV.cast (v := .int .u64 (((s + r) / 2 : Nat) : Int)) (v_shr rfl rfl rfl (by omega)) (shN (a := s + r))) ?_
 refine s_v rfl rfl rfl rfl (OpV.cast (v := .int .i64 (((s + r) / 2 : Nat) : Int)) (v_conv rfl Try.underlying101 Try.underlying3 rfl) (ciN (a := (s + r) / 2) (by first | omega | (simp [swr_len, swp_len] <;> omega)))) ?_
 refine s_v rfl rfl rfl rfl (v_as rfl rfl) ?_
 refine s_end ?_
 refine q_seq ?_
 refine c_seq rfl ?_
 refine r_any [.b g (.cells (RowI .i64 xs rest) 3 (0, 0)), .f (Φ)] (by kernel_rfl) rfl (by kernel_rfl) (mem_pick (idx := [0, 1]) rfl) ?_
 refine a_v 0 rfl (by kernel_rfl) (by kernel_rfl) (by kernel_rfl) rfl rfl rfl (v_mv rfl rfl) ?_
 refine a_v 1 rfl (by kernel_rfl) (by kernel_rfl) (by kernel_rfl) rfl rfl rfl (v_mv rfl rfl) ?_
 refine a_v 2 rfl (by kernel_rfl) (by kernel_rfl) (by kernel_rfl) rfl rfl rfl (v_mv rfl rfl) ?_
 refine a_v 3 rfl (by kernel_rfl) (by kernel_rfl) (by kernel_rfl) rfl rfl rfl (v_mv rfl rfl) ?_
 refine a_v 4 rfl (by kernel_rfl) (by kernel_rfl) (by kernel_rfl) rfl rfl rfl (OpV.cast (v := .int .i64 ((((((a + b) / 2) + m) - 1) - ((s + r) / 2) : Nat) : Int)) (v_ar rfl rfl rfl rfl) (subN (a := (((a + b) / 2) + m) - 1) (b := (s + r) / 2) (by first | omega | (simp [swr_len, swp_len] <;> omega)) (by first | omega | (simp [swr_len, swp_len] <;> omega)))) ?_
 refine a_v 5 rfl (by kernel_rfl) (by kernel_rfl) (by kernel_rfl) rfl rfl rfl (v_iaO (j := ((((a + b) / 2) + m) - 1) - ((s + r) / 2)) rfl Try.underlying25 SZ3 rfl rfl (by first | omega | (simp [swr_len, swp_len] <;> omega))) ?_
 refine a_v 6 rfl (by kernel_rfl) (by kernel_rfl) (by kernel_rfl) rfl rfl rfl (v_ldO (v := gt xs (((((a + b) / 2) + m) - 1) - ((s + r) / 2))) 0 rfl Try.underlying3 rfl rfl rfl (by first | omega | (simp [swr_len, swp_len] <;> omega)) (gt_eq (by first | omega | (simp [swr_len, swp_len] <;> omega))).symm) ?_
 refine a_v 7 rfl (by kernel_rfl) (by kernel_rfl) (by kernel_rfl) rfl rfl rfl (v_mv rfl rfl) ?_
 refine a_v 8 rfl (by kernel_rfl) (by kernel_rfl) (by kernel_rfl) rfl rfl rfl (v_mv rfl rfl) ?_
 refine a_v 9 rfl (by kernel_rfl) (by kernel_rfl) (by kernel_rfl) rfl rfl rfl (v_iaO (j := (s + r) / 2) rfl Try.underlying25 SZ3 rfl rfl (by first | omega | (simp [swr_len, swp_len] <;> omega))) ?_
 refine a_v 10 rfl (by kernel_rfl) (by kernel_rfl) (by kernel_rfl) rfl rfl rfl (v_ldO (v := gt xs ((s + r) / 2)) 0 rfl Try.underlying3 rfl rfl rfl (by first | omega | (simp [swr_len, swp_len] <;> omega)) (gt_eq (by first | omega | (simp [swr_len, swp_len] <;> omega))).symm) ?_
 refine a_1 (i := 11) (by kernel_rfl) ?_
 refine i_e rfl rfl (e_callF [1] #[.int .i64 (gt xs (((((a + b) / 2) + m) - 1) - ((s + r) / 2))), .int .i64 (gt xs ((s + r) / 2)), .pointer (some ⟨bl, 0, none⟩)] rfl rfl rfl rfl rfl Try.func27 rfl (by decide) rfl rfl rfl rfl (fun w ht => hcmp _ _ w _ (hDg xs (List.Perm.refl _) (((((a + b) / 2) + m) - 1) - ((s + r) / 2)) (by first | omega | (simp [swr_len, swp_len] <;> omega))).1 (hDg xs (List.Perm.refl _) (((((a + b) / 2) + m) - 1) - ((s + r) / 2)) (by first | omega | (simp [swr_len, swp_len] <;> omega))).2 (hDg xs (List.Perm.refl _) ((s + r) / 2) (by first | omega | (simp [swr_len, swp_len] <;> omega))).1 (hDg xs (List.Perm.refl _) ((s + r) / 2) (by first | omega | (simp [swr_len, swp_len] <;> omega))).2)) ?_
 refine ⟨(mem_pick (idx := [0, 1]) rfl), ?_⟩
 refine a_v 12 rfl (by kernel_rfl) (by kernel_rfl) (by kernel_rfl) rfl rfl rfl (v_ar rfl rfl rfl rfl) ?_
 refine a_v 13 rfl (by kernel_rfl) (by kernel_rfl) (by kernel_rfl) rfl rfl rfl (v_not rfl rfl) ?_
 refine a_end (by kernel_rfl) ?_
 refine q_seq ?_
 refine c_cond (t := !(decide ((cmp3 (key (gt xs (((((a + b) / 2) + m) - 1) - ((s + r) / 2)))) (key (gt xs ((s + r) / 2))) : Int) < 0))) rfl rfl (fun h39_ => ?_) (fun h39_ => ?_)
 have hck : ¬ key (gt xs ((a + b) / 2 + m - 1 - (s + r) / 2)) < key (gt xs ((s + r) / 2)) := by simpa [cmp3_lt] using h39_
 refine r_ord (l := [0, 1, 2]) rfl (by kernel_rfl) (by kernel_rfl) ?_
 refine s_v rfl rfl rfl rfl (v_mv rfl rfl) ?_
 refine s_v rfl rfl rfl rfl (OpV.cast (v := .int .i64 ((((s + r) / 2) + 1 : Nat) : Int)) (v_ar rfl rfl rfl rfl) (addN (a := (s + r) / 2) (b := 1) (by first | omega | (simp [swr_len, swp_len] <;> omega)))) ?_
 refine s_v rfl rfl rfl rfl (v_as rfl rfl) ?_
 refine s_end ?_
 refine q_block ?_
 exact q_again ((s + r) / 2 + 1, r) [0, 1] (hs.yes hm hbd (by omega) hck) (by dsimp only; omega) (subF_spec ⟨rfl, rfl, rfl, rfl, rfl, rfl, rfl, rfl, rfl, rfl, trivial⟩) rfl (by decide)
 have h39_d : (cmp3 (key (gt xs (((((a + b) / 2) + m) - 1) - ((s + r) / 2)))) (key (gt xs ((s + r) / 2))) : Int) < 0 := by simpa using h39_
 have hck : key (gt xs ((a + b) / 2 + m - 1 - (s + r) / 2)) < key (gt xs ((s + r) / 2)) := by simpa [cmp3_lt] using h39_
 refine r_ord (l := [0, 1]) rfl (by kernel_rfl) (by kernel_rfl) ?_
 refine s_v rfl rfl rfl rfl (v_mv rfl rfl) ?_
 refine s_v rfl rfl rfl rfl (v_as rfl rfl) ?_
 refine s_end ?_
 refine q_block ?_
 exact q_again (s, (s + r) / 2) [0, 1] (hs.no hm hbd (by omega) hck) (by dsimp only; omega) (subF_spec ⟨rfl, rfl, rfl, rfl, rfl, rfl, rfl, rfl, rfl, rfl, trivial⟩) rfl (by decide)
 have h38_d := of_decide_eq_false h38_
 obtain rfl : s = r := by omega
 refine c_exit (i := 8) rfl rfl ?_
 refine q_then_exit ?_
 refine q_then_exit ?_
 refine q_block_here rfl ?_
 refine q_seq ?_
 refine c_seq rfl ?_
 refine r_ord (l := [0, 1, 2, 3]) rfl (by kernel_rfl) (by kernel_rfl) ?_
 refine s_v rfl rfl rfl rfl (v_mv rfl rfl) ?_
 refine s_v rfl rfl rfl rfl (v_mv rfl rfl) ?_
 refine s_v rfl rfl rfl rfl (OpV.cast (v := .int .i64 (((((a + b) / 2) + m) - s : Nat) : Int)) (v_ar rfl rfl rfl rfl) (subN (a := ((a + b) / 2) + m) (b := s) (by first | omega | (simp [swr_len, swp_len] <;> omega)) (by first | omega | (simp [swr_len, swp_len] <;> omega)))) ?_
 refine s_v rfl rfl rfl rfl (v_as rfl rfl) ?_
 refine s_end ?_
 refine q_seq ?_
 refine c_seq rfl ?_
 refine c_seq rfl ?_
 refine r_ord (l := [0, 1, 2, 3, 4, 5, 6, 7]) rfl (by kernel_rfl) (by kernel_rfl) ?_
 refine s_v rfl rfl rfl rfl (v_mv rfl rfl) ?_
 refine s_v rfl rfl rfl rfl (v_mv rfl rfl) ?_
 refine s_v rfl rfl rfl rfl (v_ar rfl rfl rfl rfl) ?_
 refine s_v rfl rfl rfl rfl (v_mv rfl rfl) ?_
 refine s_splitv (d := 181) (t := decide (((s : Int) : Int) < (m : Int))) rfl (fun h40_ => ?_) (fun h40_ => ?_)
 have h40_d := of_decide_eq_true h40_
 refine s_vg rfl rfl rfl rfl (v_mv rfl rfl) ?_
 refine s_vg rfl rfl rfl rfl (v_mv rfl rfl) ?_
 refine s_vg rfl rfl rfl rfl (v_ar rfl rfl rfl rfl) ?_
 refine s_v rfl rfl rfl rfl (v_pick rfl rfl rfl rfl) ?_
 refine s_end ?_
 refine q_seq ?_
 refine c_cond (t := decide (((m : Int) : Int) < (((((a + b) / 2) + m) - s : Nat) : Int))) rfl rfl (fun h41_ => ?_) (fun h41_ => ?_)
 have h41_d := of_decide_eq_true h41_
 refine r_ord (l := [0, 1, 2, 3, 4, 5]) rfl (by kernel_rfl) (by kernel_rfl) ?_
 refine s_v rfl rfl rfl rfl (v_mv rfl rfl) ?_
 refine s_v rfl rfl rfl rfl (v_mv rfl rfl) ?_
 refine s_v rfl rfl rfl rfl (v_mv rfl rfl) ?_
 refine s_v rfl rfl rfl rfl (v_mv rfl rfl) ?_
 refine s_v rfl rfl rfl rfl (v_mv rfl rfl) ?_
 refine s_e rfl rfl (e_call [0] [1] #[.slice (some ⟨g, 0, none⟩) n cap, .int .i64 (s : Int), .int .i64 (m : Int), .int .i64 (((((a + b) / 2) + m) - s : Nat) : Int), .func (.func 27) #[] #[.pointer (some ⟨bl, 0, none⟩)]] rfl rfl rfl rfl rfl Try.func70 rfl (by decide) rfl rfl rfl rfl (by decide) (fun w ht => rot_con g n cap xs rest (.func (.func 27) #[] #[.pointer (some ⟨bl, 0, none⟩)]) s m ((a + b) / 2 + m - s) hn hN (by omega) (by omega) (by omega) w _)) ?_
 intro ys hrot
 have hpt := Pt.rot hm hbd hs hrot
 refine s_end ?_
 refine q_seq ?_
 refine c_seq rfl ?_
 refine c_seq rfl ?_
 have hys := hpt.perm.length_eq
 refine r_ord (l := [0, 1, 2, 3, 4, 5, 6, 7]) rfl (by kernel_rfl) (by kernel_rfl) ?_
 refine s_v rfl rfl rfl rfl (v_mv rfl rfl) ?_
 refine s_v rfl rfl rfl rfl (v_mv rfl rfl) ?_
 refine s_v rfl rfl rfl rfl (v_ar rfl rfl rfl rfl) ?_
 refine s_v rfl rfl rfl rfl (v_mv rfl rfl) ?_
 refine s_splitv (d := 195) (t := decide (((a : Int) : Int) < (s : Int))) rfl (fun h42_ => ?_) (fun h42_ => ?_)
 have h42_d := of_decide_eq_true h42_
 refine s_vg rfl rfl rfl rfl (v_mv rfl rfl) ?_
 refine s_vg rfl rfl rfl rfl (v_mv rfl rfl) ?_
 refine s_vg rfl rfl rfl rfl (v_ar rfl rfl rfl rfl) ?_
 refine s_v rfl rfl rfl rfl (v_pick rfl rfl rfl rfl) ?_
 refine s_end ?_
 refine q_seq ?_
 refine c_cond (t := decide (((s : Int) : Int) < (((a + b) / 2 : Nat) : Int))) rfl rfl (fun h43_ => ?_) (fun h43_ => ?_)
 have h43_d := of_decide_eq_true h43_
 refine r_ord (l := [0, 1, 2, 3, 4, 5]) rfl (by kernel_rfl) (by kernel_rfl) ?_
 refine s_v rfl rfl rfl rfl (v_mv rfl rfl) ?_
 refine s_v rfl rfl rfl rfl (v_mv rfl rfl) ?_
 refine s_v rfl rfl rfl rfl (v_mv rfl rfl) ?_
 refine s_v rfl rfl rfl rfl (v_mv rfl rfl) ?_
 refine s_v rfl rfl rfl rfl (v_mv rfl rfl) ?_
 refine s_dup 1 rfl ?_
 refine s_e rfl rfl (e_call [1, 0] [2] #[.slice (some ⟨g, 0, none⟩) n cap, .int .i64 (a : Int), .int .i64 (s : Int), .int .i64 (((a + b) / 2 : Nat) : Int), .func (.func 27) #[] #[.pointer (some ⟨bl, 0, none⟩)]] rfl rfl rfl rfl rfl Try.func67 rfl (by decide) rfl rfl rfl rfl (by decide) (fun w ht => ih g n cap ys rest bl nl key Φ hcmp (fun x hx => hD x (hpt.perm.mem_iff.1 hx)) a s ((a + b) / 2) (hys.trans hn) hN (by omega) (hpt.mg1 (by omega) (by omega)) (by omega) w _)) ?_
 intro zs hsd1
 refine s_end ?_
 refine q_seq ?_
 refine c_seq rfl ?_
 have hzs := hsd1.len
 refine r_ord (l := [0, 1, 2, 3, 4, 5, 6, 7]) rfl (by kernel_rfl) (by kernel_rfl) ?_
 refine s_v rfl rfl rfl rfl (v_mv rfl rfl) ?_
 refine s_v rfl rfl rfl rfl (v_mv rfl rfl) ?_
 refine s_v rfl rfl rfl rfl (v_ar rfl rfl rfl rfl) ?_
 refine s_v rfl rfl rfl rfl (v_mv rfl rfl) ?_
 refine s_splitv (d := 209) (t := decide (((((a + b) / 2 : Nat) : Int) : Int) < (((((a + b) / 2) + m) - s : Nat) : Int))) rfl (fun h44_ => ?_) (fun h44_ => ?_)
 have h44_d := of_decide_eq_true h44_
 refine s_vg rfl rfl rfl rfl (v_mv rfl rfl) ?_
 refine s_vg rfl rfl rfl rfl (v_mv rfl rfl) ?_
 refine s_vg rfl rfl rfl rfl (v_ar rfl rfl rfl rfl) ?_
 refine s_v rfl rfl rfl rfl (v_pick rfl rfl rfl rfl) ?_
 refine s_end ?_
 refine q_seq ?_
 refine c_cond (t := decide (((((((a + b) / 2) + m) - s : Nat) : Int) : Int) < (b : Int))) rfl rfl (fun h45_ => ?_) (fun h45_ => ?_)
 have h45_d := of_decide_eq_true h45_
 refine r_ord (l := [0, 1, 2, 3, 4, 5]) rfl (by kernel_rfl) (by kernel_rfl) ?_
 refine s_v rfl rfl rfl rfl (v_mv rfl rfl) ?_
 refine s_v rfl rfl rfl rfl (v_mv rfl rfl) ?_
 refine s_v rfl rfl rfl rfl (v_mv rfl rfl) ?_
 refine s_v rfl rfl rfl rfl (v_mv rfl rfl) ?_
 refine s_v rfl rfl rfl rfl (v_mv rfl rfl) ?_
 refine s_dup 1 rfl ?_
 refine s_e rfl rfl (e_call [1, 0] [2] #[.slice (some ⟨g, 0, none⟩) n cap, .int .i64 (((a + b) / 2 : Nat) : Int), .int .i64 (((((a + b) / 2) + m) - s : Nat) : Int), .int .i64 (b : Int), .func (.func 27) #[] #[.pointer (some ⟨bl, 0, none⟩)]] rfl rfl rfl rfl rfl Try.func67 rfl (by decide) rfl rfl rfl rfl (by decide) (fun w ht => ih g n cap zs rest bl nl key Φ hcmp (fun x hx => hD x (hpt.perm.mem_iff.1 (hsd1.perm.mem_iff.1 hx))) ((a + b) / 2) ((a + b) / 2 + m - s) b (by omega) hN (by omega) (hpt.mg2 hsd1 (by omega) (by omega)) (by omega) w _)) ?_
 intro us hsd2
 refine s_end ?_
 refine q_take [0] rfl (by decide) ?_
 exact q_post_n rfl .nil (hX _ (hpt.done hsd1 hsd2 (by omega)))
 have h45_d := of_decide_eq_false h45_
 refine c_skip rfl ?_
 have hsd2 : Sd key ((a + b) / 2) b zs zs := hpt.sd2 hsd1 (by omega)
 refine q_take [0] rfl (by decide) ?_
 exact q_post_n rfl .nil (hX _ (hpt.done hsd1 hsd2 (by omega)))
 have h44_d := of_decide_eq_false h44_
 refine s_no rfl rfl rfl rfl ?_
 refine s_no rfl rfl rfl rfl ?_
 refine s_no rfl rfl rfl rfl ?_
 refine s_v rfl rfl rfl rfl (v_pick rfl rfl rfl rfl) ?_
 refine s_end ?_
 refine q_seq ?_
 refine c_cond0 rfl rfl ?_
 refine c_skip rfl ?_
 have hsd2 : Sd key ((a + b) / 2) b zs zs := hpt.sd2 hsd1 (by omega)
 refine q_take [0] rfl (by decide) ?_
 exact q_post_n rfl .nil (hX _ (hpt.done hsd1 hsd2 (by omega)))
 have h43_d := of_decide_eq_false h43_
 refine c_skip rfl ?_
 refine q_seq ?_
 refine c_seq rfl ?_
 have hsd1 : Sd key a ((a + b) / 2) ys ys := hpt.sd1 (by omega)
 have hzs := hsd1.len
 refine r_ord (l := [0, 1, 2, 3, 4, 5, 6, 7]) rfl (by kernel_rfl) (by kernel_rfl) ?_
 refine s_v rfl rfl rfl rfl (v_mv rfl rfl) ?_
 refine s_v rfl rfl rfl rfl (v_mv rfl rfl) ?_
 refine s_v rfl rfl rfl rfl (v_ar rfl rfl rfl rfl) ?_
 refine s_v rfl rfl rfl rfl (v_mv rfl rfl) ?_
 refine s_splitv (d := 209) (t := decide (((((a + b) / 2 : Nat) : Int) : Int) < (((((a + b) / 2) + m) - s : Nat) : Int))) rfl (fun h46_ => ?_) (fun h46_ => ?_)
 have h46_d := of_decide_eq_true h46_
 refine s_vg rfl rfl rfl rfl (v_mv rfl rfl) ?_
 refine s_vg rfl rfl rfl rfl (v_mv rfl rfl) ?_
 refine s_vg rfl rfl rfl rfl (v_ar rfl rfl rfl rfl) ?_
 refine s_v rfl rfl rfl rfl (v_pick rfl rfl rfl rfl) ?_
 refine s_end ?_
 refine q_seq ?_
 refine c_cond (t := decide (((((((a + b) / 2) + m) - s : Nat) : Int) : Int) < (b : Int))) rfl rfl (fun h47_ => ?_) (fun h47_ => ?_)
 have h47_d := of_decide_eq_true h47_
 refine r_ord (l := [0, 1, 2, 3, 4, 5]) rfl (by kernel_rfl) (by kernel_rfl) ?_
 refine s_v rfl rfl rfl rfl (v_mv rfl rfl) ?_
 refine s_v rfl rfl rfl rfl (v_mv rfl rfl) ?_
 refine s_v rfl rfl rfl rfl (v_mv rfl rfl) ?_
 refine s_v rfl rfl rfl rfl (v_mv rfl rfl) ?_
 refine s_v rfl rfl rfl rfl (v_mv rfl rfl) ?_
 refine s_dup 1 rfl ?_
 refine s_e rfl rfl (e_call [1, 0] [2] #[.slice (some ⟨g, 0, none⟩) n cap, .int .i64 (((a + b) / 2 : Nat) : Int), .int .i64 (((((a + b) / 2) + m) - s : Nat) : Int), .int .i64 (b : Int), .func (.func 27) #[] #[.pointer (some ⟨bl, 0, none⟩)]] rfl rfl rfl rfl rfl Try.func67 rfl (by decide) rfl rfl rfl rfl (by decide) (fun w ht => ih g n cap ys rest bl nl key Φ hcmp (fun x hx => hD x (hpt.perm.mem_iff.1 (hsd1.perm.mem_iff.1 hx))) ((a + b) / 2) ((a + b) / 2 + m - s) b (by omega) hN (by omega) (hpt.mg2 hsd1 (by omega) (by omega)) (by omega) w _)) ?_
 intro us hsd2
 refine s_end ?_
 refine q_take [0] rfl (by decide) ?_
 exact q_post_n rfl .nil (hX _ (hpt.done hsd1 hsd2 (by omega)))
 have h47_d := of_decide_eq_false h47_
 refine c_skip rfl ?_
 have hsd2 : Sd key ((a + b) / 2) b ys ys := hpt.sd2 hsd1 (by omega)
 refine q_take [0] rfl (by decide) ?_
 exact q_post_n rfl .nil (hX _ (hpt.done hsd1 hsd2 (by omega)))
 have h46_d := of_decide_eq_false h46_
 refine s_no rfl rfl rfl rfl ?_
 refine s_no rfl rfl rfl rfl ?_
 refine s_no rfl rfl rfl rfl ?_
 refine s_v rfl rfl rfl rfl (v_pick rfl rfl rfl rfl) ?_
 refine s_end ?_
 refine q_seq ?_
 refine c_cond0 rfl rfl ?_
 refine c_skip rfl ?_
 have hsd2 : Sd key ((a + b) / 2) b ys ys := hpt.sd2 hsd1 (by omega)
 refine q_take [0] rfl (by decide) ?_
 exact q_post_n rfl .nil (hX _ (hpt.done hsd1 hsd2 (by omega)))
 have h42_d := of_decide_eq_false h42_
 refine s_no rfl rfl rfl rfl ?_
 refine s_no rfl rfl rfl rfl ?_
 refine s_no rfl rfl rfl rfl ?_
 refine s_v rfl rfl rfl rfl (v_pick rfl rfl rfl rfl) ?_
 refine s_end ?_
 refine q_seq ?_
 refine c_cond0 rfl rfl ?_
 refine c_skip rfl ?_
 refine q_seq ?_
 refine c_seq rfl ?_
 have hsd1 : Sd key a ((a + b) / 2) ys ys := hpt.sd1 (by omega)
 have hzs := hsd1.len
 refine r_ord (l := [0, 1, 2, 3, 4, 5, 6, 7]) rfl (by kernel_rfl) (by kernel_rfl) ?_
 refine s_v rfl rfl rfl rfl (v_mv rfl rfl) ?_
 refine s_v rfl rfl rfl rfl (v_mv rfl rfl) ?_
 refine s_v rfl rfl rfl rfl (v_ar rfl rfl rfl rfl) ?_
 refine s_v rfl rfl rfl rfl (v_mv rfl rfl) ?_
 refine s_splitv (d := 209) (t := decide (((((a + b) / 2 : Nat) : Int) : Int) < (((((a + b) / 2) + m) - s : Nat) : Int))) rfl (fun h48_ => ?_) (fun h48_ => ?_)
 have h48_d := of_decide_eq_true h48_
 refine s_vg rfl rfl rfl rfl (v_mv rfl rfl) ?_
 refine s_vg rfl rfl rfl rfl (v_mv rfl rfl) ?_
 refine s_vg rfl rfl rfl rfl (v_ar rfl rfl rfl rfl) ?_
 refine s_v rfl rfl rfl rfl (v_pick rfl rfl rfl rfl) ?_
 refine s_end ?_
 refine q_seq ?_
 refine c_cond (t := decide (((((((a + b) / 2) + m) - s : Nat) : Int) : Int) < (b : Int))) rfl rfl (fun h49_ => ?_) (fun h49_ => ?_)
 have h49_d := of_decide_eq_true h49_
 refine r_ord (l := [0, 1, 2, 3, 4, 5]) rfl (by kernel_rfl) (by kernel_rfl) ?_
 refine s_v rfl rfl rfl rfl (v_mv rfl rfl) ?_
 refine s_v rfl rfl rfl rfl (v_mv rfl rfl) ?_
 refine s_v rfl rfl rfl rfl (v_mv rfl rfl) ?_
 refine s_v rfl rfl rfl rfl (v_mv rfl rfl) ?_
 refine s_v rfl rfl rfl rfl (v_mv rfl rfl) ?_
 refine s_dup 1 rfl ?_
 refine s_e rfl rfl (e_call [1, 0] [2] #[.slice (some ⟨g, 0, none⟩) n cap, .int .i64 (((a + b) / 2 : Nat) : Int), .int .i64 (((((a + b) / 2) + m) - s : Nat) : Int), .int .i64 (b : Int), .func (.func 27) #[] #[.pointer (some ⟨bl, 0, none⟩)]] rfl rfl rfl rfl rfl Try.func67 rfl (by decide) rfl rfl rfl rfl (by decide) (fun w ht => ih g n cap ys rest bl nl key Φ hcmp (fun x hx => hD x (hpt.perm.mem_iff.1 (hsd1.perm.mem_iff.1 hx))) ((a + b) / 2) ((a + b) / 2 + m - s) b (by omega) hN (by omega) (hpt.mg2 hsd1 (by omega) (by omega)) (by omega) w _)) ?_
 intro us hsd2
 refine s_end ?_
 refine q_take [0] rfl (by decide) ?_
 exact q_post_n rfl .nil (hX _ (hpt.done hsd1 hsd2 (by omega)))
 have h49_d := of_decide_eq_false h49_
 refine c_skip rfl ?_
 have hsd2 : Sd key ((a + b) / 2) b ys ys := hpt.sd2 hsd1 (by omega)
 refine q_take [0] rfl (by decide) ?_
 exact q_post_n rfl .nil (hX _ (hpt.done hsd1 hsd2 (by omega)))
 have h48_d := of_decide_eq_false h48_
 refine s_no rfl rfl rfl rfl ?_
 refine s_no rfl rfl rfl rfl ?_
 refine s_no rfl rfl rfl rfl ?_
 refine s_v rfl rfl rfl rfl (v_pick rfl rfl rfl rfl) ?_
 refine s_end ?_
 refine q_seq ?_
 refine c_cond0 rfl rfl ?_
 refine c_skip rfl ?_
 have hsd2 : Sd key ((a + b) / 2) b ys ys := hpt.sd2 hsd1 (by omega)
 refine q_take [0] rfl (by decide) ?_
 exact q_post_n rfl .nil (hX _ (hpt.done hsd1 hsd2 (by omega)))
 have h41_d := of_decide_eq_false h41_
 refine c_skip rfl ?_
 refine q_seq ?_
 refine c_seq rfl ?_
 refine c_seq rfl ?_
 have hpt : Pt key xs a m b s xs := Pt.none hm hbd hs (by omega)
 have hys := hpt.perm.length_eq
 refine r_ord (l := [0, 1, 2, 3, 4, 5, 6, 7]) rfl (by kernel_rfl) (by kernel_rfl) ?_
 refine s_v rfl rfl rfl rfl (v_mv rfl rfl) ?_
 refine s_v rfl rfl rfl rfl (v_mv rfl rfl) ?_
 refine s_v rfl rfl rfl rfl (v_ar rfl rfl rfl rfl) ?_
 refine s_v rfl rfl rfl rfl (v_mv rfl rfl) ?_
 refine s_splitv (d := 195) (t := decide (((a : Int) : Int) < (s : Int))) rfl (fun h50_ => ?_) (fun h50_ => ?_)
 have h50_d := of_decide_eq_true h50_
 refine s_vg rfl rfl rfl rfl (v_mv rfl rfl) ?_
 refine s_vg rfl rfl rfl rfl (v_mv rfl rfl) ?_
 refine s_vg rfl rfl rfl rfl (v_ar rfl rfl rfl rfl) ?_
 refine s_v rfl rfl rfl rfl (v_pick rfl rfl rfl rfl) ?_
 refine s_end ?_
 refine q_seq ?_
 refine c_cond (t := decide (((s : Int) : Int) < (((a + b) / 2 : Nat) : Int))) rfl rfl (fun h51_ => ?_) (fun h51_ => ?_)
 have h51_d := of_decide_eq_true h51_
 refine r_ord (l := [0, 1, 2, 3, 4, 5]) rfl (by kernel_rfl) (by kernel_rfl) ?_
 refine s_v rfl rfl rfl rfl (v_mv rfl rfl) ?_
 refine s_v rfl rfl rfl rfl (v_mv rfl rfl) ?_
 refine s_v rfl rfl rfl rfl (v_mv rfl rfl) ?_
 refine s_v rfl rfl rfl rfl (v_mv rfl rfl) ?_
 refine s_v rfl rfl rfl rfl (v_mv rfl rfl) ?_
 refine s_dup 1 rfl ?_
 refine s_e rfl rfl (e_call [1, 0] [2] #[.slice (some ⟨g, 0, none⟩) n cap, .int .i64 (a : Int), .int .i64 (s : Int), .int .i64 (((a + b) / 2 : Nat) : Int), .func (.func 27) #[] #[.pointer (some ⟨bl, 0, none⟩)]] rfl rfl rfl rfl rfl Try.func67 rfl (by decide) rfl rfl rfl rfl (by decide) (fun w ht => ih g n cap xs rest bl nl key Φ hcmp (fun x hx => hD x (hpt.perm.mem_iff.1 hx)) a s ((a + b) / 2) (hys.trans hn) hN (by omega) (hpt.mg1 (by omega) (by omega)) (by omega) w _)) ?_
 intro zs hsd1
 refine s_end ?_
 refine q_seq ?_
 refine c_seq rfl ?_
 have hzs := hsd1.len
 refine r_ord (l := [0, 1, 2, 3, 4, 5, 6, 7]) rfl (by kernel_rfl) (by kernel_rfl) ?_
 refine s_v rfl rfl rfl rfl (v_mv rfl rfl) ?_
 refine s_v rfl rfl rfl rfl (v_mv rfl rfl) ?_
 refine s_v rfl rfl rfl rfl (v_ar rfl rfl rfl rfl) ?_
 refine s_v rfl rfl rfl rfl (v_mv rfl rfl) ?_
 refine s_splitv (d := 209) (t := decide (((((a + b) / 2 : Nat) : Int) : Int) < (((((a + b) / 2) + m) - s : Nat) : Int))) rfl (fun h52_ => ?_) (fun h52_ => ?_)
 have h52_d := of_decide_eq_true h52_
 refine s_vg rfl rfl rfl rfl (v_mv rfl rfl) ?_
 refine s_vg rfl rfl rfl rfl (v_mv rfl rfl) ?_
 refine s_vg rfl rfl rfl rfl (v_ar rfl rfl rfl rfl) ?_
 refine s_v rfl rfl rfl rfl (v_pick rfl rfl rfl rfl) ?_
 refine s_end ?_
 refine q_seq ?_
 refine c_cond (t := decide (((((((a + b) / 2) + m) - s : Nat) : Int) : Int) < (b : Int))) rfl rfl (fun h53_ => ?_) (fun h53_ => ?_)
 have h53_d := of_decide_eq_true h53_
 refine r_ord (l := [0, 1, 2, 3, 4, 5]) rfl (by kernel_rfl) (by kernel_rfl) ?_
 refine s_v rfl rfl rfl rfl (v_mv rfl rfl) ?_
 refine s_v rfl rfl rfl rfl (v_mv rfl rfl) ?_
 refine s_v rfl rfl rfl rfl (v_mv rfl rfl) ?_
 refine s_v rfl rfl rfl rfl (v_mv rfl rfl) ?_
 refine s_v rfl rfl rfl rfl (v_mv rfl rfl) ?_
 refine s_dup 1 rfl ?_
 refine s_e rfl rfl (e_call [1, 0] [2] #[.slice (some ⟨g, 0, none⟩) n cap, .int .i64 (((a + b) / 2 : Nat) : Int), .int .i64 (((((a + b) / 2) + m) - s : Nat) : Int), .int .i64 (b : Int), .func (.func 27) #[] #[.pointer (some ⟨bl, 0, none⟩)]] rfl rfl rfl rfl rfl Try.func67 rfl (by decide) rfl rfl rfl rfl (by decide) (fun w ht => ih g n cap zs rest bl nl key Φ hcmp (fun x hx => hD x (hpt.perm.mem_iff.1 (hsd1.perm.mem_iff.1 hx))) ((a + b) / 2) ((a + b) / 2 + m - s) b (by omega) hN (by omega) (hpt.mg2 hsd1 (by omega) (by omega)) (by omega) w _)) ?_
 intro us hsd2
 refine s_end ?_
 refine q_take [0] rfl (by decide) ?_
 exact q_post_n rfl .nil (hX _ (hpt.done hsd1 hsd2 (by omega)))
 have h53_d := of_decide_eq_false h53_
 refine c_skip rfl ?_
 have hsd2 : Sd key ((a + b) / 2) b zs zs := hpt.sd2 hsd1 (by omega)
 refine q_take [0] rfl (by decide) ?_
 exact q_post_n rfl .nil (hX _ (hpt.done hsd1 hsd2 (by omega)))
 have h52_d := of_decide_eq_false h52_
 refine s_no rfl rfl rfl rfl ?_
 refine s_no rfl rfl rfl rfl ?_
 refine s_no rfl rfl rfl rfl ?_
 refine s_v rfl rfl rfl rfl (v_pick rfl rfl rfl rfl) ?_
 refine s_end ?_
 refine q_seq ?_
 refine c_cond0 rfl rfl ?_
 refine c_skip rfl ?_
 have hsd2 : Sd key ((a + b) / 2) b zs zs := hpt.sd2 hsd1 (by omega)
 refine q_take [0] rfl (by decide) ?_
 exact q_post_n rfl .nil (hX _ (hpt.done hsd1 hsd2 (by omega)))
 have h51_d := of_decide_eq_false h51_
 refine c_skip rfl ?_
 refine q_seq ?_
 refine c_seq rfl ?_
 have hsd1 : Sd key a ((a + b) / 2) xs xs := hpt.sd1 (by omega)
 have hzs := hsd1.len
 refine r_ord (l := [0, 1, 2, 3, 4, 5, 6, 7]) rfl (by kernel_rfl) (by kernel_rfl) ?_
 refine s_v rfl rfl rfl rfl (v_mv rfl rfl) ?_
 refine s_v rfl rfl rfl rfl (v_mv rfl rfl) ?_
 refine s_v rfl rfl rfl rfl (v_ar rfl rfl rfl rfl) ?_
 refine s_v rfl rfl rfl rfl (v_mv rfl rfl) ?_
 refine s_splitv (d := 209) (t := decide (((((a + b) / 2 : Nat) : Int) : Int) < (((((a + b) / 2) + m) - s : Nat) : Int))) rfl (fun h54_ => ?_) (fun h54_ => ?_)
 have h54_d := of_decide_eq_true h54_
 refine s_vg rfl rfl rfl rfl (v_mv rfl rfl) ?_
 refine s_vg rfl rfl rfl rfl (v_mv rfl rfl) ?_
 refine s_vg rfl rfl rfl rfl (v_ar rfl rfl rfl rfl) ?_
 refine s_v rfl rfl rfl rfl (v_pick rfl rfl rfl rfl) ?_
 refine s_end ?_
 refine q_seq ?_
 refine c_cond (t := decide (((((((a + b) / 2) + m) - s : Nat) : Int) : Int) < (b : Int))) rfl rfl (fun h55_ => ?_) (fun h55_ => ?_)
 have h55_d := of_decide_eq_true h55_
 refine r_ord (l := [0, 1, 2, 3, 4, 5]) rfl (by kernel_rfl) (by kernel_rfl) ?_
 refine s_v rfl rfl rfl rfl (v_mv rfl rfl) ?_
 refine s_v rfl rfl rfl rfl (v_mv rfl rfl) ?_
 refine s_v rfl rfl rfl rfl (v_mv rfl rfl) ?_
 refine s_v rfl rfl rfl rfl (v_mv rfl rfl) ?_
 refine s_v rfl rfl rfl rfl (v_mv rfl rfl) ?_
 refine s_dup 1 rfl ?_
 refine s_e rfl rfl (e_call [1, 0] [2] #[.slice (some ⟨g, 0, none⟩) n cap, .int .i64 (((a + b) / 2 : Nat) : Int), .int .i64 (((((a + b) / 2) + m) - s : Nat) : Int), .int .i64 (b : Int), .func (.func 27) #[] #[.pointer (some ⟨bl, 0, none⟩)]] rfl rfl rfl rfl rfl Try.func67 rfl (by decide) rfl rfl rfl rfl (by decide) (fun w ht => ih g n cap xs rest bl nl key Φ hcmp (fun x hx => hD x (hpt.perm.mem_iff.1 (hsd1.perm.mem_iff.1 hx))) ((a + b) / 2) ((a + b) / 2 + m - s) b (by omega) hN (by omega) (hpt.mg2 hsd1 (by omega) (by omega)) (by omega) w _)) ?_
 intro us hsd2
 refine s_end ?_
 refine q_take [0] rfl (by decide) ?_
 exact q_post_n rfl .nil (hX _ (hpt.done hsd1 hsd2 (by omega)))
 have h55_d := of_decide_eq_false h55_
 refine c_skip rfl ?_
 have hsd2 : Sd key ((a + b) / 2) b xs xs := hpt.sd2 hsd1 (by omega)
 refine q_take [0] rfl (by decide) ?_
 exact q_post_n rfl .nil (hX _ (hpt.done hsd1 hsd2 (by omega)))
 have h54_d := of_decide_eq_false h54_
 refine s_no rfl rfl rfl rfl ?_
 refine s_no rfl rfl rfl rfl ?_
 refine s_no rfl rfl rfl rfl ?_
 refine s_v rfl rfl rfl rfl (v_pick rfl rfl rfl rfl) ?_
 refine s_end ?_
 refine q_seq ?_
 refine c_cond0 rfl rfl ?_
 refine c_skip rfl ?_
 have hsd2 : Sd key ((a + b) / 2) b xs xs := hpt.sd2 hsd1 (by omega)
 refine q_take [0] rfl (by decide) ?_
 exact q_post_n rfl .nil (hX _ (hpt.done hsd1 hsd2 (by omega)))
 have h50_d := of_decide_eq_false h50_
 refine s_no rfl rfl rfl rfl ?_
 refine s_no rfl rfl rfl rfl ?_
 refine s_no rfl rfl rfl rfl ?_
 refine s_v rfl rfl rfl rfl (v_pick rfl rfl rfl rfl) ?_
 refine s_end ?_
 refine q_seq ?_
 refine c_cond0 rfl rfl ?_
 refine c_skip rfl ?_
 refine q_seq ?_
 refine c_seq rfl ?_
 have hsd1 : Sd key a ((a + b) / 2) xs xs := hpt.sd1 (by omega)
 have hzs := hsd1.len
 refine r_ord (l := [0, 1, 2, 3, 4, 5, 6, 7]) rfl (by kernel_rfl) (by kernel_rfl) ?_
 refine s_v rfl rfl rfl rfl (v_mv rfl rfl) ?_
 refine s_v rfl rfl rfl rfl (v_mv rfl rfl) ?_
 refine s_v rfl rfl rfl rfl (v_ar rfl rfl rfl rfl) ?_
 refine s_v rfl rfl rfl rfl (v_mv rfl rfl) ?_
 refine s_splitv (d := 209) (t := decide (((((a + b) / 2 : Nat) : Int) : Int) < (((((a + b) / 2) + m) - s : Nat) : Int))) rfl (fun h56_ => ?_) (fun h56_ => ?_)
 have h56_d := of_decide_eq_true h56_
 refine s_vg rfl rfl rfl rfl (v_mv rfl rfl) ?_
 refine s_vg rfl rfl rfl rfl (v_mv rfl rfl) ?_
 refine s_vg rfl rfl rfl rfl (v_ar rfl rfl rfl rfl) ?_
 refine s_v rfl rfl rfl rfl (v_pick rfl rfl rfl rfl) ?_
 refine s_end ?_
 refine q_seq ?_
 refine c_cond (t := decide (((((((a + b) / 2) + m) - s : Nat) : Int) : Int) < (b : Int))) rfl rfl (fun h57_ => ?_) (fun h57_ => ?_)
 have h57_d := of_decide_eq_true h57_
 refine r_ord (l := [0, 1, 2, 3, 4, 5]) rfl (by kernel_rfl) (by kernel_rfl) ?_
 refine s_v rfl rfl rfl rfl (v_mv rfl rfl) ?_
 refine s_v rfl rfl rfl rfl (v_mv rfl rfl) ?_
 refine s_v rfl rfl rfl rfl (v_mv rfl rfl) ?_
 refine s_v rfl rfl rfl rfl (v_mv rfl rfl) ?_
 refine s_v rfl rfl rfl rfl (v_mv rfl rfl) ?_
 refine s_dup 1 rfl ?_
 refine s_e rfl rfl (e_call [1, 0] [2] #[.slice (some ⟨g, 0, none⟩) n cap, .int .i64 (((a + b) / 2 : Nat) : Int), .int .i64 (((((a + b) / 2) + m) - s : Nat) : Int), .int .i64 (b : Int), .func (.func 27) #[] #[.pointer (some ⟨bl, 0, none⟩)]] rfl rfl rfl rfl rfl Try.func67 rfl (by decide) rfl rfl rfl rfl (by decide) (fun w ht => ih g n cap xs rest bl nl key Φ hcmp (fun x hx => hD x (hpt.perm.mem_iff.1 (hsd1.perm.mem_iff.1 hx))) ((a + b) / 2) ((a + b) / 2 + m - s) b (by omega) hN (by omega) (hpt.mg2 hsd1 (by omega) (by omega)) (by omega) w _)) ?_
 intro us hsd2
 refine s_end ?_
 refine q_take [0] rfl (by decide) ?_
 exact q_post_n rfl .nil (hX _ (hpt.done hsd1 hsd2 (by omega)))
 have h57_d := of_decide_eq_false h57_
 refine c_skip rfl ?_
 have hsd2 : Sd key ((a + b) / 2) b xs xs := hpt.sd2 hsd1 (by omega)
 refine q_take [0] rfl (by decide) ?_
 exact q_post_n rfl .nil (hX _ (hpt.done hsd1 hsd2 (by omega)))
 have h56_d := of_decide_eq_false h56_
 refine s_no rfl rfl rfl rfl ?_
 refine s_no rfl rfl rfl rfl ?_
 refine s_no rfl rfl rfl rfl ?_
 refine s_v rfl rfl rfl rfl (v_pick rfl rfl rfl rfl) ?_
 refine s_end ?_
 refine q_seq ?_
 refine c_cond0 rfl rfl ?_
 refine c_skip rfl ?_
 have hsd2 : Sd key ((a + b) / 2) b xs xs := hpt.sd2 hsd1 (by omega)
 refine q_take [0] rfl (by decide) ?_
 exact q_post_n rfl .nil (hX _ (hpt.done hsd1 hsd2 (by omega)))
 have h40_d := of_decide_eq_false h40_
 refine s_no rfl rfl rfl rfl ?_
 refine s_no rfl rfl rfl rfl ?_
 refine s_no rfl rfl rfl rfl ?_
 refine s_v rfl rfl rfl rfl (v_pick rfl rfl rfl rfl) ?_
 refine s_end ?_
 refine q_seq ?_
 refine c_cond0 rfl rfl ?_
 refine c_skip rfl ?_
 refine q_seq ?_
 refine c_seq rfl ?_
 refine c_seq rfl ?_
 have hpt : Pt key xs a m b s xs := Pt.none hm hbd hs (by omega)
 have hys := hpt.perm.length_eq
 refine r_ord (l := [0, 1, 2, 3, 4, 5, 6, 7]) rfl (by kernel_rfl) (by kernel_rfl) ?_
 refine s_v rfl rfl rfl rfl (v_mv rfl rfl) ?_
 refine s_v rfl rfl rfl rfl (v_mv rfl rfl) ?_
 refine s_v rfl rfl rfl rfl (v_ar rfl rfl rfl rfl) ?_
 refine s_v rfl rfl rfl rfl (v_mv rfl rfl) ?_
 refine s_splitv (d := 195) (t := decide (((a : Int) : Int) < (s : Int))) rfl (fun h58_ => ?_) (fun h58_ => ?_)
 have h58_d := of_decide_eq_true h58_
 refine s_vg rfl rfl rfl rfl (v_mv rfl rfl) ?_
 refine s_vg rfl rfl rfl rfl (v_mv rfl rfl) ?_
 refine s_vg rfl rfl rfl rfl (v_ar rfl rfl rfl rfl) ?_
 refine s_v rfl rfl rfl rfl (v_pick rfl rfl rfl rfl) ?_
 refine s_end ?_
 refine q_seq ?_
 refine c_cond (t := decide (((s : Int) : Int) < (((a + b) / 2 : Nat) : Int))) rfl rfl (fun h59_ => ?_) (fun h59_ => ?_)
 have h59_d := of_decide_eq_true h59_
 refine r_ord (l := [0, 1, 2, 3, 4, 5]) rfl (by kernel_rfl) (by kernel_rfl) ?_
 refine s_v rfl rfl rfl rfl (v_mv rfl rfl) ?_
 refine s_v rfl rfl rfl rfl (v_mv rfl rfl) ?_
 refine s_v rfl rfl rfl rfl (v_mv rfl rfl) ?_
 refine s_v rfl rfl rfl rfl (v_mv rfl rfl) ?_
 refine s_v rfl rfl rfl rfl (v_mv rfl rfl) ?_
 refine s_dup 1 rfl ?_
 refine s_e rfl rfl (e_call [1, 0] [2] #[.slice (some ⟨g, 0, none⟩) n cap, .int .i64 (a : Int), .int .i64 (s : Int), .int .i64 (((a + b) / 2 : Nat) : Int), .func (.func 27) #[] #[.pointer (some ⟨bl, 0, none⟩)]] rfl rfl rfl rfl rfl Try.func67 rfl (by decide) rfl rfl rfl rfl (by decide) (fun w ht => ih g n cap xs rest bl nl key Φ hcmp (fun x hx => hD x (hpt.perm.mem_iff.1 hx)) a s ((a + b) / 2) (hys.trans hn) hN (by omega) (hpt.mg1 (by omega) (by omega)) (by omega) w _)) ?_
 intro zs hsd1
 refine s_end ?_
 refine q_seq ?_
 refine c_seq rfl ?_
 have hzs := hsd1.len
 refine r_ord (l := [0, 1, 2, 3, 4, 5, 6, 7]) rfl (by kernel_rfl) (by kernel_rfl) ?_
 refine s_v rfl rfl rfl rfl (v_mv rfl rfl) ?_
 refine s_v rfl rfl rfl rfl (v_mv rfl rfl) ?_
 refine s_v rfl rfl rfl rfl (v_ar rfl rfl rfl rfl) ?_
 refine s_v rfl rfl rfl rfl (v_mv rfl rfl) ?_
 refine s_splitv (d := 209) (t := decide (((((a + b) / 2 : Nat) : Int) : Int) < (((((a + b) / 2) + m) - s : Nat) : Int))) rfl (fun h60_ => ?_) (fun h60_ => ?_)
 have h60_d := of_decide_eq_true h60_
 refine s_vg rfl rfl rfl rfl (v_mv rfl rfl) ?_
 refine s_vg rfl rfl rfl rfl (v_mv rfl rfl) ?_
 refine s_vg rfl rfl rfl rfl (v_ar rfl rfl rfl rfl) ?_
 refine s_v rfl rfl rfl rfl (v_pick rfl rfl rfl rfl) ?_
 refine s_end ?_
 refine q_seq ?_
 refine c_cond (t := decide (((((((a + b) / 2) + m) - s : Nat) : Int) : Int) < (b : Int))) rfl rfl (fun h61_ => ?_) (fun h61_ => ?_)
 have h61_d := of_decide_eq_true h61_
 refine r_ord (l := [0, 1, 2, 3, 4, 5]) rfl (by kernel_rfl) (by kernel_rfl) ?_
 refine s_v rfl rfl rfl rfl (v_mv rfl rfl) ?_
 refine s_v rfl rfl rfl rfl (v_mv rfl rfl) ?_
 refine s_v rfl rfl rfl rfl (v_mv rfl rfl) ?_
 refine s_v rfl rfl rfl rfl (v_mv rfl rfl) ?_
 refine s_v rfl rfl rfl rfl (v_mv rfl rfl) ?_
 refine s_dup 1 rfl ?_
 refine s_e rfl rfl (e_call [1, 0] [2] #[.slice (some ⟨g, 0, none⟩) n cap, .int .i64 (((a + b) / 2 : Nat) : Int), .int .i64 (((((a + b) / 2) + m) - s : Nat) : Int), .int .i64 (b : Int), .func (.func 27) #[] #[.pointer (some ⟨bl, 0, none⟩)]] rfl rfl rfl rfl rfl Try.func67 rfl (by decide) rfl rfl rfl rfl (by decide) (fun w ht => ih g n cap zs rest bl nl key Φ hcmp (fun x hx => hD x (hpt.perm.mem_iff.1 (hsd1.perm.mem_iff.1 hx))) ((a + b) / 2) ((a + b) / 2 + m - s) b (by omega) hN (by omega) (hpt.mg2 hsd1 (by omega) (by omega)) (by omega) w _)) ?_
 intro us hsd2
 refine s_end ?_
 refine q_take [0] rfl (by decide) ?_
 exact q_post_n rfl .nil (hX _ (hpt.done hsd1 hsd2 (by omega)))
 have h61_d := of_decide_eq_false h61_
 refine c_skip rfl ?_
 have hsd2 : Sd key ((a + b) / 2) b zs zs := hpt.sd2 hsd1 (by omega)
 refine q_take [0] rfl (by decide) ?_
 exact q_post_n rfl .nil (hX _ (hpt.done hsd1 hsd2 (by omega)))
 have h60_d := of_decide_eq_false h60_
 refine s_no rfl rfl rfl rfl ?_
 refine s_no rfl rfl rfl rfl ?_
 refine s_no rfl rfl rfl rfl ?_
 refine s_v rfl rfl rfl rfl (v_pick rfl rfl rfl rfl) ?_
 refine s_end ?_
 refine q_seq ?_
 refine c_cond0 rfl rfl ?_
 refine c_skip rfl ?_
 have hsd2 : Sd key ((a + b) / 2) b zs zs := hpt.sd2 hsd1 (by omega)
 refine q_take [0] rfl (by decide) ?_
 exact q_post_n rfl .nil (hX _ (hpt.done hsd1 hsd2 (by omega)))
 have h59_d := of_decide_eq_false h59_
 refine c_skip rfl ?_
 refine q_seq ?_
 refine c_seq rfl ?_
 have hsd1 : Sd key a ((a + b) / 2) xs xs := hpt.sd1 (by omega)
 have hzs := hsd1.len
 refine r_ord (l := [0, 1, 2, 3, 4, 5, 6, 7]) rfl (by kernel_rfl) (by kernel_rfl) ?_
 refine s_v rfl rfl rfl rfl (v_mv rfl rfl) ?_
 refine s_v rfl rfl rfl rfl (v_mv rfl rfl) ?_
 refine s_v rfl rfl rfl rfl (v_ar rfl rfl rfl rfl) ?_
 refine s_v rfl rfl rfl rfl (v_mv rfl rfl) ?_
 refine s_splitv (d := 209) (t := decide (((((a + b) / 2 : Nat) : Int) : Int) < (((((a + b) / 2) + m) - s : Nat) : Int))) rfl (fun h62_ => ?_) (fun h62_ => ?_)
 have h62_d := of_decide_eq_true h62_
 refine s_vg rfl rfl rfl rfl (v_mv rfl rfl) ?_
 refine s_vg rfl rfl rfl rfl (v_mv rfl rfl) ?_
 refine s_vg rfl rfl rfl rfl (v_ar rfl rfl rfl rfl) ?_
 refine s_v rfl rfl rfl rfl (v_pick rfl rfl rfl rfl) ?_
 refine s_end ?_
 refine q_seq ?_
 refine c_cond (t := decide (((((((a + b) / 2) + m) - s : Nat) : Int) : Int) < (b : Int))) rfl rfl (fun h63_ => ?_) (fun h63_ => ?_)
 have h63_d := of_decide_eq_true h63_
 refine r_ord (l := [0, 1, 2, 3, 4, 5]) rfl (by kernel_rfl) (by kernel_rfl) ?_
 refine s_v rfl rfl rfl rfl (v_mv rfl rfl) ?_
 refine s_v rfl rfl rfl rfl (v_mv rfl rfl) ?_
 refine s_v rfl rfl rfl rfl (v_mv rfl rfl) ?_
 refine s_v rfl rfl rfl rfl (v_mv rfl rfl) ?_
 refine s_v rfl rfl rfl rfl (v_mv rfl rfl) ?_
 refine s_dup 1 rfl ?_
 refine s_e rfl rfl (e_call [1, 0] [2] #[.slice (some ⟨g, 0, none⟩) n cap, .int .i64 (((a + b) / 2 : Nat) : Int), .int .i64 (((((a + b) / 2) + m) - s : Nat) : Int), .int .i64 (b : Int), .func (.func 27) #[] #[.pointer (some ⟨bl, 0, none⟩)]] rfl rfl rfl rfl rfl Try.func67 rfl (by decide) rfl rfl rfl rfl (by decide) (fun w ht => ih g n cap xs rest bl nl key Φ hcmp (fun x hx => hD x (hpt.perm.mem_iff.1 (hsd1.perm.mem_iff.1 hx))) ((a + b) / 2) ((a + b) / 2 + m - s) b (by omega) hN (by omega) (hpt.mg2 hsd1 (by omega) (by omega)) (by omega) w _)) ?_
 intro us hsd2
 refine s_end ?_
 refine q_take [0] rfl (by decide) ?_
 exact q_post_n rfl .nil (hX _ (hpt.done hsd1 hsd2 (by omega)))
 have h63_d := of_decide_eq_false h63_
 refine c_skip rfl ?_
 have hsd2 : Sd key ((a + b) / 2) b xs xs := hpt.sd2 hsd1 (by omega)
 refine q_take [0] rfl (by decide) ?_
 exact q_post_n rfl .nil (hX _ (hpt.done hsd1 hsd2 (by omega)))
 have h62_d := of_decide_eq_false h62_
 refine s_no rfl rfl rfl rfl ?_
 refine s_no rfl rfl rfl rfl ?_
 refine s_no rfl rfl rfl rfl ?_
 refine s_v rfl rfl rfl rfl (v_pick rfl rfl rfl rfl) ?_
 refine s_end ?_
 refine q_seq ?_
 refine c_cond0 rfl rfl ?_
 refine c_skip rfl ?_
 have hsd2 : Sd key ((a + b) / 2) b xs xs := hpt.sd2 hsd1 (by omega)
 refine q_take [0] rfl (by decide) ?_
 exact q_post_n rfl .nil (hX _ (hpt.done hsd1 hsd2 (by omega)))
 have h58_d := of_decide_eq_false h58_
 refine s_no rfl rfl rfl rfl ?_
 refine s_no rfl rfl rfl rfl ?_
 refine s_no rfl rfl rfl rfl ?_
 refine s_v rfl rfl rfl rfl (v_pick rfl rfl rfl rfl) ?_
 refine s_end ?_
 refine q_seq ?_
 refine c_cond0 rfl rfl ?_
 refine c_skip rfl ?_
 refine q_seq ?_
 refine c_seq rfl ?_
 have hsd1 : Sd key a ((a + b) / 2) xs xs := hpt.sd1 (by omega)
 have hzs := hsd1.len
 refine r_ord (l := [0, 1, 2, 3, 4, 5, 6, 7]) rfl (by kernel_rfl) (by kernel_rfl) ?_
 refine s_v rfl rfl rfl rfl (v_mv rfl rfl) ?_
 refine s_v rfl rfl rfl rfl (v_mv rfl rfl) ?_
 refine s_v rfl rfl rfl rfl (v_ar rfl rfl rfl rfl) ?_
 refine s_v rfl rfl rfl rfl (v_mv rfl rfl) ?_
 refine s_splitv (d := 209) (t := decide (((((a + b) / 2 : Nat) : Int) : Int) < (((((a + b) / 2) + m) - s : Nat) : Int))) rfl (fun h64_ => ?_) (fun h64_ => ?_)
 have h64_d := of_decide_eq_true h64_
 refine s_vg rfl rfl rfl rfl (v_mv rfl rfl) ?_
 refine s_vg rfl rfl rfl rfl (v_mv rfl rfl) ?_
 refine s_vg rfl rfl rfl rfl (v_ar rfl rfl rfl rfl) ?_
 refine s_v rfl rfl rfl rfl (v_pick rfl rfl rfl rfl) ?_
 refine s_end ?_
 refine q_seq ?_
 refine c_cond (t := decide (((((((a + b) / 2) + m) - s : Nat) : Int) : Int) < (b : Int))) rfl rfl (fun h65_ => ?_) (fun h65_ => ?_)
 have h65_d := of_decide_eq_true h65_
 refine r_ord (l := [0, 1, 2, 3, 4, 5]) rfl (by kernel_rfl) (by kernel_rfl) ?_
 refine s_v rfl rfl rfl rfl (v_mv rfl rfl) ?_
 refine s_v rfl rfl rfl rfl (v_mv rfl rfl) ?_
 refine s_v rfl rfl rfl rfl (v_mv rfl rfl) ?_
 refine s_v rfl rfl rfl rfl (v_mv rfl rfl) ?_
 refine s_v rfl rfl rfl rfl (v_mv rfl rfl) ?_
 refine s_dup 1 rfl ?_
 refine s_e rfl rfl (e_call [1, 0] [2] #[.slice (some ⟨g, 0, none⟩) n cap, .int .i64 (((a + b) / 2 : Nat) : Int), .int .i64 (((((a + b) / 2) + m) - s : Nat) : Int), .int .i64 (b : Int), .func (.func 27) #[] #[.pointer (some ⟨bl, 0, none⟩)]] rfl rfl rfl rfl rfl Try.func67 rfl (by decide) rfl rfl rfl rfl (by decide) (fun w ht => ih g n cap xs rest bl nl key Φ hcmp (fun x hx => hD x (hpt.perm.mem_iff.1 (hsd1.perm.mem_iff.1 hx))) ((a + b) / 2) ((a + b) / 2 + m - s) b (by omega) hN (by omega) (hpt.mg2 hsd1 (by omega) (by omega)) (by omega) w _)) ?_
 intro us hsd2
 refine s_end ?_
 refine q_take [0] rfl (by decide) ?_
 exact q_post_n rfl .nil (hX _ (hpt.done hsd1 hsd2 (by omega)))
 have h65_d := of_decide_eq_false h65_
 refine c_skip rfl ?_
 have hsd2 : Sd key ((a + b) / 2) b xs xs := hpt.sd2 hsd1 (by omega)
 refine q_take [0] rfl (by decide) ?_
 exact q_post_n rfl .nil (hX _ (hpt.done hsd1 hsd2 (by omega)))
 have h64_d := of_decide_eq_false h64_
 refine s_no rfl rfl rfl rfl ?_
 refine s_no rfl rfl rfl rfl ?_
 refine s_no rfl rfl rfl rfl ?_
 refine s_v rfl rfl rfl rfl (v_pick rfl rfl rfl rfl) ?_
 refine s_end ?_
 refine q_seq ?_
 refine c_cond0 rfl rfl ?_
 refine c_skip rfl ?_
 have hsd2 : Sd key ((a + b) / 2) b xs xs := hpt.sd2 hsd1 (by omega)
 refine q_take [0] rfl (by decide) ?_
 exact q_post_n rfl .nil (hX _ (hpt.done hsd1 hsd2 (by omega)))
theorem sym_all : ∀ sz, SymC sz
  | 0 => fun g n cap xs rest bl nl key Φ hcmp hD a m b hn hN h3 hm hsz => by have := hm.am; have := hm.mb; omega
  | sz + 1 => fun g n cap xs rest bl nl key Φ hcmp hD a m b hn hN h3 hm hsz => sym_step sz (sym_all sz) g n cap xs rest bl nl key Φ hcmp hD a m b hn hN h3 hm hsz
end Go.Eng
namespace Go.Eng
open Go.Proofs Go.RowKit Go.Proofs.YtiihjijmmephlaaW.PrintWords
set_option linter.unusedVariables false
set_option linter.unusedSimpArgs false
set_option maxRecDepth 100000 in
set_option maxHeartbeats 4000000 in
theorem stable_con (g n cap : Nat) (xs : List Int) (rest : List Value) (bl nl : Nat) (key : Int → Int) (Φ : World → Prop) (hcmp : ∀ (x y : Int) (w : World) (H : List Nat), 0 ≤ x → x < nl → 0 ≤ y → y < nl → Con Try.prog 27 #[.int .i64 x, .int .i64 y, .pointer (some ⟨bl, 0, none⟩)] w H [.f Φ] (fun X => X (.int .i64 (cmp3 (key x) (key y))) [])) (hD : ∀ x ∈ xs, 0 ≤ x ∧ x < (nl : Int)) (hn : xs.length = n) (hn2 : n ≤ 40) (hinc : ∀ p q, p < q → q < n → gt xs p < gt xs q) (w0 : World) (H : List Nat) : Con Try.prog 51 #[.slice (some ⟨g, 0, none⟩) n cap, .int .i64 ((n : Nat) : Int), (.func (.func 27) #[] #[.pointer (some ⟨bl, 0, none⟩)])] w0 H [.b g (.cells (RowI .i64 xs rest) 3 (0, 0)), .f Φ] (fun X => ∀ ys, ys.Perm xs → SS key 0 n ys → X (.tuple #[]) [.b g (.cells (RowI .i64 ys rest) 3 (0, 0))]) := by
 refine con_enter (c := bodyOf Try.f51) Try.func51 rfl (m := 63) rfl rfl rfl ?_
 intro X hX _
 have hN : n ≤ 1000000 := by omega
 refine c_seq rfl ?_
 refine r_ord (l := [0]) rfl (by kernel_rfl) (by kernel_rfl) ?_
 refine s_v rfl rfl rfl rfl (v_as rfl rfl) ?_
 refine s_end ?_
 refine q_seq ?_
 refine c_seq rfl ?_
 refine r_ord (l := [0, 1, 2]) rfl (by kernel_rfl) (by kernel_rfl) ?_
 refine s_v rfl rfl rfl rfl (v_mv rfl rfl) ?_
 refine s_v rfl rfl rfl rfl (v_as rfl rfl) ?_
 refine s_v rfl rfl rfl rfl (v_as rfl rfl) ?_
 refine s_end ?_
 refine q_seq ?_
 refine c_seq rfl ?_
 refine c_block rfl ?_
 refine c_loop (σ := (Nat × List Int)) (fun s : (Nat × List Int) => match s with | (c, ys) => Hv key n xs ys (20 * c) ∧ 20 * c ≤ n) (fun s : (Nat × List Int) => match s with | (c, ys) => n + 20 - 20 * c) (fun s : (Nat × List Int) => match s with | (c, ys) => [(0, .slice (some ⟨g, 0, none⟩) n cap), (1, .int .i64 (n : Int)), (2, .func (.func 27) #[] #[.pointer (some ⟨bl, 0, none⟩)]), (6, .int .i64 20), (7, .int .i64 ((20 * c : Nat) : Int)), (8, .int .i64 ((20 * c + 20 : Nat) : Int))]) (fun s : (Nat × List Int) => match s with | (c, ys) => [.b g (.cells (RowI .i64 ys rest) 3 (0, 0)), .f (Φ)]) (0, xs) [0, 1] rfl ⟨Hv.start key n xs, Nat.zero_le _⟩ (subF_spec ⟨rfl, rfl, rfl, rfl, rfl, rfl, trivial⟩) rfl (by decide) ?_
 rintro ⟨c, ys⟩ hs
 have hh := hs
 have hly : ys.length = n := hh.1.perm.length_eq.trans hn
 have h_c := hh.2
 refine c_seq rfl ?_
 refine c_seq rfl ?_
 refine r_ord (l := [0, 1, 2]) rfl (by kernel_rfl) (by kernel_rfl) ?_
 refine s_v rfl rfl rfl rfl (v_mv rfl rfl) ?_
 refine s_v rfl rfl rfl rfl (v_mv rfl rfl) ?_
 refine s_v rfl rfl rfl rfl (v_ar rfl rfl rfl rfl) ?_
 refine s_end ?_
 refine q_seq ?_
 refine c_cond (t := decide ((((20 * c + 20 : Nat) : Int) : Int) ≤ (n : Int))) rfl rfl (fun h1_ => ?_) (fun h1_ => ?_)
 have h1_d := of_decide_eq_true h1_
 refine c_skip rfl ?_
 refine q_seq ?_
 refine c_block rfl ?_
 refine c_seq rfl ?_
 refine r_ord (l := [0, 1, 2, 3, 4]) rfl (by kernel_rfl) (by kernel_rfl) ?_
 refine s_v rfl rfl rfl rfl (v_mv rfl rfl) ?_
 refine s_v rfl rfl rfl rfl (v_mv rfl rfl) ?_
 refine s_v rfl rfl rfl rfl (v_mv rfl rfl) ?_
 refine s_v rfl rfl rfl rfl (v_mv rfl rfl) ?_
 refine s_dup 1 rfl ?_
 refine s_e rfl rfl (e_call [1, 0] [2] #[.slice (some ⟨g, 0, none⟩) n cap, .int .i64 ((20 * c : Nat) : Int), .int .i64 ((20 * c + 20 : Nat) : Int), .func (.func 27) #[] #[.pointer (some ⟨bl, 0, none⟩)]] rfl rfl rfl rfl rfl Try.func66 rfl (by decide) rfl rfl rfl rfl (by decide) (fun w ht => ins_con g n cap ys rest bl nl key Φ hcmp (fun x hx => hD x (hh.1.perm.mem_iff.1 hx)) (20 * c) (20 * c + 20) hly hN (by omega) (by omega) (fun p q h1_ h2_ h3_ => hh.1.inc hinc p q h1_ h2_ (by omega)) w _)) ?_
 intro zs hsd
 refine s_end ?_
 refine q_seq ?_
 refine c_seq rfl ?_
 refine r_ord (l := [0, 1]) rfl (by kernel_rfl) (by kernel_rfl) ?_
 refine s_v rfl rfl rfl rfl (v_mv rfl rfl) ?_
 refine s_v rfl rfl rfl rfl (v_as rfl rfl) ?_
 refine s_end ?_
 refine q_seq ?_
 refine r_ord (l := [0, 1, 2, 3]) rfl (by kernel_rfl) (by kernel_rfl) ?_
 refine s_v rfl rfl rfl rfl (v_mv rfl rfl) ?_
 refine s_v rfl rfl rfl rfl (v_mv rfl rfl) ?_
 refine s_v rfl rfl rfl rfl (OpV.cast (v := .int .i64 (((20 * c + 20) + 20 : Nat) : Int)) (v_ar rfl rfl rfl rfl) (addN (a := 20 * c + 20) (b := 20) (by first | omega | (simp [swr_len, swp_len] <;> omega)))) ?_
 refine s_v rfl rfl rfl rfl (v_as rfl rfl) ?_
 refine s_end ?_
 refine q_block ?_
 exact q_again (c + 1, zs) [0, 1] ⟨hh.1.step (by omega) (by omega) (by omega) hn2 hsd, by omega⟩ (by dsimp only; omega) (subF_spec ⟨rfl, rfl, rfl, rfl, rfl, rfl, trivial⟩) rfl (by decide)
 have h1_d := of_decide_eq_false h1_
 refine c_exit (i := 0) rfl rfl ?_
 refine q_then_exit ?_
 refine q_then_exit ?_
 refine q_block_here rfl ?_
 refine q_seq ?_
 refine c_seq rfl ?_
 refine r_ord (l := [0, 1, 2, 3, 4]) rfl (by kernel_rfl) (by kernel_rfl) ?_
 refine s_v rfl rfl rfl rfl (v_mv rfl rfl) ?_
 refine s_v rfl rfl rfl rfl (v_mv rfl rfl) ?_
 refine s_v rfl rfl rfl rfl (v_mv rfl rfl) ?_
 refine s_v rfl rfl rfl rfl (v_mv rfl rfl) ?_
 refine s_dup 1 rfl ?_
 refine s_e rfl rfl (e_call [1, 0] [2] #[.slice (some ⟨g, 0, none⟩) n cap, .int .i64 ((20 * c : Nat) : Int), .int .i64 (n : Int), .func (.func 27) #[] #[.pointer (some ⟨bl, 0, none⟩)]] rfl rfl rfl rfl rfl Try.func66 rfl (by decide) rfl rfl rfl rfl (by decide) (fun w ht => ins_con g n cap ys rest bl nl key Φ hcmp (fun x hx => hD x (hh.1.perm.mem_iff.1 hx)) (20 * c) n hly hN (by omega) (by omega) (fun p q h1_ h2_ h3_ => hh.1.inc hinc p q h1_ h2_ (by omega)) w _)) ?_
 intro zs hsd
 have hfull : Hv key n xs zs n := hh.1.step (by omega) (by omega) (Nat.le_refl _) hn2 hsd
 have hlz : zs.length = n := hfull.perm.length_eq.trans hn
 refine s_end ?_
 refine q_seq ?_
 refine c_block rfl ?_
 refine c_loop (σ := (Bool × List Int)) (fun s : (Bool × List Int) => match s with | (false, ys) => Hv key n xs ys n | (true, ys) => ys.Perm xs ∧ SS key 0 n ys) (fun s : (Bool × List Int) => match s with | (false, ys) => 1 | (true, ys) => 0) (fun s : (Bool × List Int) => match s with | (false, ys) => [(0, .slice (some ⟨g, 0, none⟩) n cap), (1, .int .i64 (n : Int)), (2, .func (.func 27) #[] #[.pointer (some ⟨bl, 0, none⟩)]), (6, .int .i64 20)] | (true, ys) => [(0, .slice (some ⟨g, 0, none⟩) n cap), (1, .int .i64 (n : Int)), (2, .func (.func 27) #[] #[.pointer (some ⟨bl, 0, none⟩)]), (6, .int .i64 40)]) (fun s : (Bool × List Int) => match s with | (false, ys) => [.b g (.cells (RowI .i64 ys rest) 3 (0, 0)), .f (Φ)] | (true, ys) => [.b g (.cells (RowI .i64 ys rest) 3 (0, 0)), .f (Φ)]) (false, zs) [0, 1] rfl hfull (subF_spec ⟨rfl, rfl, rfl, rfl, trivial⟩) rfl (by decide) ?_
 rintro ⟨_ | _, ys⟩ hs
 have hv : Hv key n xs ys n := hs
 have hly : ys.length = n := hv.perm.length_eq.trans hn
 refine c_seq rfl ?_
 refine c_seq rfl ?_
 refine r_ord (l := [0, 1, 2]) rfl (by kernel_rfl) (by kernel_rfl) ?_
 refine s_v rfl rfl rfl rfl (v_mv rfl rfl) ?_
 refine s_v rfl rfl rfl rfl (v_mv rfl rfl) ?_
 refine s_v rfl rfl rfl rfl (v_ar rfl rfl rfl rfl) ?_
 refine s_end ?_
 refine q_seq ?_
 refine c_cond (t := decide ((20 : Int) < (n : Int))) rfl rfl (fun h2_ => ?_) (fun h2_ => ?_)
 have h2_d := of_decide_eq_true h2_
 refine c_skip rfl ?_
 refine q_seq ?_
 refine c_block rfl ?_
 refine c_seq rfl ?_
 refine r_ord (l := [0, 1, 2, 3]) rfl (by kernel_rfl) (by kernel_rfl) ?_
 refine s_v rfl rfl rfl rfl (v_mv rfl rfl) ?_
 refine s_v rfl rfl rfl rfl (OpV.cast (v := .int .i64 ((2 * 20 : Nat) : Int)) (v_ar rfl rfl rfl rfl) (mulN (a := 2) (b := 20) (by first | omega | (simp [swr_len, swp_len] <;> omega)))) ?_
 refine s_v rfl rfl rfl rfl (v_as rfl rfl) ?_
 refine s_v rfl rfl rfl rfl (v_as rfl rfl) ?_
 refine s_end ?_
 refine q_seq ?_
 refine c_seq rfl ?_
 refine c_block rfl ?_
 refine c_loop (σ := (Bool × List Int)) (fun s : (Bool × List Int) => match s with | (false, zs) => zs = ys | (true, zs) => n = 40 ∧ zs.Perm xs ∧ SS key 0 n zs) (fun s : (Bool × List Int) => match s with | (false, zs) => 1 | (true, zs) => 0) (fun s : (Bool × List Int) => match s with | (false, zs) => [(0, .slice (some ⟨g, 0, none⟩) n cap), (1, .int .i64 (n : Int)), (2, .func (.func 27) #[] #[.pointer (some ⟨bl, 0, none⟩)]), (6, .int .i64 20), (7, .int .i64 0), (8, .int .i64 40)] | (true, zs) => [(0, .slice (some ⟨g, 0, none⟩) n cap), (1, .int .i64 (n : Int)), (2, .func (.func 27) #[] #[.pointer (some ⟨bl, 0, none⟩)]), (6, .int .i64 20), (7, .int .i64 40), (8, .int .i64 80)]) (fun s : (Bool × List Int) => match s with | (false, zs) => [.b g (.cells (RowI .i64 zs rest) 3 (0, 0)), .f (Φ)] | (true, zs) => [.b g (.cells (RowI .i64 zs rest) 3 (0, 0)), .f (Φ)]) (false, ys) [0, 1] rfl rfl (subF_spec ⟨rfl, rfl, rfl, rfl, rfl, rfl, trivial⟩) rfl (by decide) ?_
 rintro ⟨_ | _, zs⟩ hs
 obtain rfl : zs = ys := hs
 have hlz : zs.length = n := hv.perm.length_eq.trans hn
 refine c_seq rfl ?_
 refine c_seq rfl ?_
 refine r_ord (l := [0, 1, 2]) rfl (by kernel_rfl) (by kernel_rfl) ?_
 refine s_v rfl rfl rfl rfl (v_mv rfl rfl) ?_
 refine s_v rfl rfl rfl rfl (v_mv rfl rfl) ?_
 refine s_v rfl rfl rfl rfl (v_ar rfl rfl rfl rfl) ?_
 refine s_end ?_
 refine q_seq ?_
 refine c_cond (t := decide ((40 : Int) ≤ (n : Int))) rfl rfl (fun h3_ => ?_) (fun h3_ => ?_)
 have h3_d := of_decide_eq_true h3_
 have hn40 : n = 40 := by omega
 have hmg : Mg key zs 0 20 40 := by have h_ := hv.mg (by omega) hinc; rwa [hn40] at h_
 refine c_skip rfl ?_
 refine q_seq ?_
 refine c_block rfl ?_
 refine c_seq rfl ?_
 refine r_ord (l := [0, 1, 2, 3, 4, 5, 6, 7]) rfl (by kernel_rfl) (by kernel_rfl) ?_
 refine s_v rfl rfl rfl rfl (v_mv rfl rfl) ?_
 refine s_v rfl rfl rfl rfl (v_mv rfl rfl) ?_
 refine s_v rfl rfl rfl rfl (v_mv rfl rfl) ?_
 refine s_v rfl rfl rfl rfl (v_mv rfl rfl) ?_
 refine s_v rfl rfl rfl rfl (OpV.cast (v := .int .i64 ((0 + 20 : Nat) : Int)) (v_ar rfl rfl rfl rfl) (addN (a := 0) (b := 20) (by first | omega | (simp [swr_len, swp_len] <;> omega)))) ?_
 refine s_v rfl rfl rfl rfl (v_mv rfl rfl) ?_
 refine s_v rfl rfl rfl rfl (v_mv rfl rfl) ?_
 refine s_dup 1 rfl ?_
 refine s_e rfl rfl (e_call [1, 0] [2] #[.slice (some ⟨g, 0, none⟩) n cap, .int .i64 0, .int .i64 ((0 + 20 : Nat) : Int), .int .i64 40, .func (.func 27) #[] #[.pointer (some ⟨bl, 0, none⟩)]] rfl rfl rfl rfl rfl Try.func67 rfl (by decide) rfl rfl rfl rfl (by decide) (fun w ht => sym_all (40 - 0) g n cap zs rest bl nl key Φ hcmp (fun x hx => hD x (hv.perm.mem_iff.1 hx)) 0 20 40 hlz hN (by omega) hmg (Nat.le_refl _) w _)) ?_
 intro us hsd
 have hres40 := And.intro (hsd.perm.trans hv.perm) (show SS key 0 n us by rw [hn40]; exact hsd.ss)
 refine s_end ?_
 refine q_seq ?_
 refine c_seq rfl ?_
 refine r_ord (l := [0, 1]) rfl (by kernel_rfl) (by kernel_rfl) ?_
 refine s_v rfl rfl rfl rfl (v_mv rfl rfl) ?_
 refine s_v rfl rfl rfl rfl (v_as rfl rfl) ?_
 refine s_end ?_
 refine q_seq ?_
 refine r_ord (l := [0, 1, 2, 3, 4]) rfl (by kernel_rfl) (by kernel_rfl) ?_
 refine s_v rfl rfl rfl rfl (v_mv rfl rfl) ?_
 refine s_v rfl rfl rfl rfl (v_mv rfl rfl) ?_
 refine s_v rfl rfl rfl rfl (OpV.cast (v := .int .i64 ((2 * 20 : Nat) : Int)) (v_ar rfl rfl rfl rfl) (mulN (a := 2) (b := 20) (by first | omega | (simp [swr_len, swp_len] <;> omega)))) ?_
 refine s_v rfl rfl rfl rfl (OpV.cast (v := .int .i64 ((40 + (2 * 20) : Nat) : Int)) (v_ar rfl rfl rfl rfl) (addN (a := 40) (b := 2 * 20) (by first | omega | (simp [swr_len, swp_len] <;> omega)))) ?_
 refine s_v rfl rfl rfl rfl (v_as rfl rfl) ?_
 refine s_end ?_
 refine q_block ?_
 exact q_again (true, us) [0, 1] ⟨hn40, hres40.1, hres40.2⟩ (by dsimp only; omega) (subF_spec ⟨rfl, rfl, rfl, rfl, rfl, rfl, trivial⟩) rfl (by decide)
 have h3_d := of_decide_eq_false h3_
 refine c_exit (i := 4) rfl rfl ?_
 refine q_then_exit ?_
 refine q_then_exit ?_
 refine q_block_here rfl ?_
 refine q_seq ?_
 refine c_seq rfl ?_
 refine c_seq rfl ?_
 refine r_ord (l := [0, 1, 2, 3]) rfl (by kernel_rfl) (by kernel_rfl) ?_
 refine s_v rfl rfl rfl rfl (v_mv rfl rfl) ?_
 refine s_v rfl rfl rfl rfl (v_mv rfl rfl) ?_
 refine s_v rfl rfl rfl rfl (OpV.cast (v := .int .i64 ((0 + 20 : Nat) : Int)) (v_ar rfl rfl rfl rfl) (addN (a := 0) (b := 20) (by first | omega | (simp [swr_len, swp_len] <;> omega)))) ?_
 refine s_v rfl rfl rfl rfl (v_as rfl rfl) ?_
 refine s_end ?_
 refine q_seq ?_
 refine c_seq rfl ?_
 refine r_ord (l := [0, 1, 2]) rfl (by kernel_rfl) (by kernel_rfl) ?_
 refine s_v rfl rfl rfl rfl (v_mv rfl rfl) ?_
 refine s_v rfl rfl rfl rfl (v_mv rfl rfl) ?_
 refine s_v rfl rfl rfl rfl (v_ar rfl rfl rfl rfl) ?_
 refine s_end ?_
 refine q_seq ?_
 refine c_cond (t := decide ((((0 + 20 : Nat) : Int) : Int) < (n : Int))) rfl rfl (fun h4_ => ?_) (fun h4_ => ?_)
 have h4_d := of_decide_eq_true h4_
 refine r_ord (l := [0, 1, 2, 3, 4, 5]) rfl (by kernel_rfl) (by kernel_rfl) ?_
 refine s_v rfl rfl rfl rfl (v_mv rfl rfl) ?_
 refine s_v rfl rfl rfl rfl (v_mv rfl rfl) ?_
 refine s_v rfl rfl rfl rfl (v_mv rfl rfl) ?_
 refine s_v rfl rfl rfl rfl (v_mv rfl rfl) ?_
 refine s_v rfl rfl rfl rfl (v_mv rfl rfl) ?_
 refine s_dup 1 rfl ?_
 refine s_e rfl rfl (e_call [1, 0] [2] #[.slice (some ⟨g, 0, none⟩) n cap, .int .i64 0, .int .i64 ((0 + 20 : Nat) : Int), .int .i64 (n : Int), .func (.func 27) #[] #[.pointer (some ⟨bl, 0, none⟩)]] rfl rfl rfl rfl rfl Try.func67 rfl (by decide) rfl rfl rfl rfl (by decide) (fun w ht => sym_all (n - 0) g n cap zs rest bl nl key Φ hcmp (fun x hx => hD x (hv.perm.mem_iff.1 hx)) 0 20 n hlz hN (by omega) (hv.mg (by omega) hinc) (Nat.le_refl _) w _)) ?_
 intro us hsd
 have hres := And.intro (hsd.perm.trans hv.perm) hsd.ss
 refine s_end ?_
 refine q_seq ?_
 refine r_ord (l := [0, 1, 2]) rfl (by kernel_rfl) (by kernel_rfl) ?_
 refine s_v rfl rfl rfl rfl (v_mv rfl rfl) ?_
 refine s_v rfl rfl rfl rfl (OpV.cast (v := .int .i64 ((20 * 2 : Nat) : Int)) (v_ar rfl rfl rfl rfl) (mulN (a := 20) (b := 2) (by first | omega | (simp [swr_len, swp_len] <;> omega)))) ?_
 refine s_v rfl rfl rfl rfl (v_as rfl rfl) ?_
 refine s_end ?_
 refine q_block ?_
 exact q_again (true, us) [0, 1] hres (by dsimp only; omega) (subF_spec ⟨rfl, rfl, rfl, rfl, trivial⟩) rfl (by decide)
 have h4_d := of_decide_eq_false h4_
 exfalso; omega
 obtain ⟨h40, hres⟩ := hs
 refine c_seq rfl ?_
 refine c_seq rfl ?_
 refine r_ord (l := [0, 1, 2]) rfl (by kernel_rfl) (by kernel_rfl) ?_
 refine s_v rfl rfl rfl rfl (v_mv rfl rfl) ?_
 refine s_v rfl rfl rfl rfl (v_mv rfl rfl) ?_
 refine s_v rfl rfl rfl rfl (v_ar rfl rfl rfl rfl) ?_
 refine s_end ?_
 refine q_seq ?_
 refine c_cond (t := decide ((80 : Int) ≤ (n : Int))) rfl rfl (fun h5_ => ?_) (fun h5_ => ?_)
 have h5_d := of_decide_eq_true h5_
 exfalso; omega
 have h5_d := of_decide_eq_false h5_
 refine c_exit (i := 4) rfl rfl ?_
 refine q_then_exit ?_
 refine q_then_exit ?_
 refine q_block_here rfl ?_
 refine q_seq ?_
 refine c_seq rfl ?_
 refine c_seq rfl ?_
 refine r_ord (l := [0, 1, 2, 3]) rfl (by kernel_rfl) (by kernel_rfl) ?_
 refine s_v rfl rfl rfl rfl (v_mv rfl rfl) ?_
 refine s_v rfl rfl rfl rfl (v_mv rfl rfl) ?_
 refine s_v rfl rfl rfl rfl (OpV.cast (v := .int .i64 ((40 + 20 : Nat) : Int)) (v_ar rfl rfl rfl rfl) (addN (a := 40) (b := 20) (by first | omega | (simp [swr_len, swp_len] <;> omega)))) ?_
 refine s_v rfl rfl rfl rfl (v_as rfl rfl) ?_
 refine s_end ?_
 refine q_seq ?_
 refine c_seq rfl ?_
 refine r_ord (l := [0, 1, 2]) rfl (by kernel_rfl) (by kernel_rfl) ?_
 refine s_v rfl rfl rfl rfl (v_mv rfl rfl) ?_
 refine s_v rfl rfl rfl rfl (v_mv rfl rfl) ?_
 refine s_v rfl rfl rfl rfl (v_ar rfl rfl rfl rfl) ?_
 refine s_end ?_
 refine q_seq ?_
 refine c_cond (t := decide ((((40 + 20 : Nat) : Int) : Int) < (n : Int))) rfl rfl (fun h6_ => ?_) (fun h6_ => ?_)
 have h6_d := of_decide_eq_true h6_
 exfalso; omega
 have h6_d := of_decide_eq_false h6_
 refine c_skip rfl ?_
 refine q_seq ?_
 refine r_ord (l := [0, 1, 2]) rfl (by kernel_rfl) (by kernel_rfl) ?_
 refine s_v rfl rfl rfl rfl (v_mv rfl rfl) ?_
 refine s_v rfl rfl rfl rfl (OpV.cast (v := .int .i64 ((20 * 2 : Nat) : Int)) (v_ar rfl rfl rfl rfl) (mulN (a := 20) (b := 2) (by first | omega | (simp [swr_len, swp_len] <;> omega)))) ?_
 refine s_v rfl rfl rfl rfl (v_as rfl rfl) ?_
 refine s_end ?_
 refine q_block ?_
 exact q_again (true, zs) [0, 1] hres (by dsimp only; omega) (subF_spec ⟨rfl, rfl, rfl, rfl, trivial⟩) rfl (by decide)
 have h2_d := of_decide_eq_false h2_
 have hres := And.intro hv.perm (hv.few (by omega))
 refine c_exit (i := 2) rfl rfl ?_
 refine q_then_exit ?_
 refine q_then_exit ?_
 refine q_block_here rfl ?_
 refine q_take [0] rfl (by decide) ?_
 exact q_post_n rfl .nil (hX _ hres.1 hres.2)
 have hres : ys.Perm xs ∧ SS key 0 n ys := hs
 refine c_seq rfl ?_
 refine c_seq rfl ?_
 refine r_ord (l := [0, 1, 2]) rfl (by kernel_rfl) (by kernel_rfl) ?_
 refine s_v rfl rfl rfl rfl (v_mv rfl rfl) ?_
 refine s_v rfl rfl rfl rfl (v_mv rfl rfl) ?_
 refine s_v rfl rfl rfl rfl (v_ar rfl rfl rfl rfl) ?_
 refine s_end ?_
 refine q_seq ?_
 refine c_cond (t := decide ((40 : Int) < (n : Int))) rfl rfl (fun h7_ => ?_) (fun h7_ => ?_)
 have h7_d := of_decide_eq_true h7_
 exfalso; omega
 have h7_d := of_decide_eq_false h7_
 refine c_exit (i := 2) rfl rfl ?_
 refine q_then_exit ?_
 refine q_then_exit ?_
 refine q_block_here rfl ?_
 refine q_take [0] rfl (by decide) ?_
 exact q_post_n rfl .nil (hX _ hres.1 hres.2)
set_option maxRecDepth 100000 in
set_option maxHeartbeats 4000000 in
theorem sort_con (g n cap : Nat) (xs : List Int) (rest : List Value) (bl nl : Nat) (key : Int → Int) (Φ : World → Prop) (hcmp : ∀ (x y : Int) (w : World) (H : List Nat), 0 ≤ x → x < nl → 0 ≤ y → y < nl → Con Try.prog 27 #[.int .i64 x, .int .i64 y, .pointer (some ⟨bl, 0, none⟩)] w H [.f Φ] (fun X => X (.int .i64 (cmp3 (key x) (key y))) [])) (hD : ∀ x ∈ xs, 0 ≤ x ∧ x < (nl : Int)) (hn : xs.length = n) (hn2 : n ≤ 40) (hinc : ∀ p q, p < q → q < n → gt xs p < gt xs q) (w0 : World) (H : List Nat) : Con Try.prog 26 #[.slice (some ⟨g, 0, none⟩) n cap, (.func (.func 27) #[] #[.pointer (some ⟨bl, 0, none⟩)])] w0 H [.b g (.cells (RowI .i64 xs rest) 3 (0, 0)), .f Φ] (fun X => ∀ ys, ys.Perm xs → SS key 0 n ys → X (.tuple #[]) [.b g (.cells (RowI .i64 ys rest) 3 (0, 0))]) := by
  refine con_enter (c := bodyOf Try.f26) Try.func26 rfl (m := 9) rfl rfl rfl ?_
  intro X hX _
  refine r_ord (l := [0, 1, 2, 3, 4]) rfl (by kernel_rfl) (by kernel_rfl) ?_
  refine s_v rfl rfl rfl rfl (v_mv rfl rfl) ?_
  refine s_v rfl rfl rfl rfl (v_mv rfl rfl) ?_
  refine s_v rfl rfl rfl rfl (v_len rfl rfl rfl Try.underlying25 rfl rfl) ?_
  refine s_v rfl rfl rfl rfl (v_mv rfl rfl) ?_
  refine s_e rfl rfl (e_call [0, 1] [] #[.slice (some ⟨g, 0, none⟩) n cap, .int .i64 (n : Nat), .func (.func 27) #[] #[.pointer (some ⟨bl, 0, none⟩)]] rfl rfl rfl rfl rfl Try.func51 rfl (by decide) rfl rfl rfl rfl (by decide) (fun w ht => stable_con g n cap xs rest bl nl key Φ hcmp hD hn hn2 hinc w _)) ?_
  intro ys hp hss
  refine s_end ?_
  refine q_take [0] rfl (by decide) ?_
  exact q_post_n rfl .nil (hX _ hp hss)
end Go.Eng
namespace Go.Eng
open Go.Proofs Go.RowKit Go.Proofs.YtiihjijmmephlaaW.PrintWords Go.Proofs.Ytiihjijmmephlaa.GHist
set_option linter.unusedVariables false
set_option linter.unusedSimpArgs false
def cellsE (x : S48) (A : Option Addr) (c : Nat) : List Value := [.int .i64 x.f0, .int .i64 x.f1.f0, .int .u64 x.f1.f1, .int .u64 x.f1.f2, .int .i64 x.f1.f3, .int .i64 x.f1.f4, .int .i64 x.f2, .int .i64 x.f3, .int .i64 x.f4, .bool x.f5, .bool x.f6.f0, .bool x.f6.f1, .int .u64 x.f6.f2, .slice A x.f6.f3.length c]
theorem k48_sh {w : World} {x : S48} {cs : List Value} (h : k48.K w x cs) : ∃ A c, cs = cellsE x A c := by
  obtain ⟨A, c, e, _⟩ := k48_open h
  exact ⟨A, c, e⟩
theorem k48_row {w : World} {x : S48} {A : Option Addr} {c : Nat} (h : k48.K w x (cellsE x A c)) : KC (Kd.int .u64) A c x.f6.f3 w := by
  obtain ⟨A', c', e, hl, hC⟩ := k48_open h
  simp only [cellsE, List.cons.injEq, Value.slice.injEq, and_true, true_and] at e
  obtain ⟨rfl, rfl⟩ := e
  exact ⟨hC, hl⟩
theorem k48_at7 {w : World} {x : S48} {K : List Value} (h : k48.K w x K) : K[7]? = some (.int .i64 x.f3) := by
  obtain ⟨A, c, rfl⟩ := k48_sh h
  rfl
def keyA (l : List S48) (x : Int) : Int := (rd_T48 l x).f3
def EvF (bl : Nat) (A : Option Addr) (c : Nat) (l : List S48) : World → Prop := fun w => w.heap[bl]? = some (.cells #[.slice A l.length c] 27 (0, 0)) ∧ KC k48 A c l w
theorem cmp_f (a b : Int) : cmp_Compare_int.f a b = some (cmp3 a b) := by
  simp [cmp_Compare_int.f, cmp_isNaN_int.f, cmp3]
  split
  · rfl
  · split <;> rfl
end Go.Eng
namespace Go.Eng
open Go.Proofs Go.RowKit Go.Proofs.YtiihjijmmephlaaW.PrintWords Go.Proofs.Ytiihjijmmephlaa.GHist
set_option linter.unusedVariables false
set_option linter.unusedSimpArgs false
set_option maxRecDepth 100000 in
set_option maxHeartbeats 4000000 in
theorem cmp27_con (bl : Nat) (A : Option Addr) (c : Nat) (l : List S48) (x y : Int) (hx0 : 0 ≤ x) (hx : x < l.length) (hy0 : 0 ≤ y) (hy : y < l.length) (w0 : World) (H : List Nat) : Con Try.prog 27 #[.int .i64 x, .int .i64 y, .pointer (some ⟨bl, 0, none⟩)] w0 H [.f (EvF bl A c l)] (fun X => X (.int .i64 (cmp3 (keyA l x) (keyA l y))) []) := by
  refine con_enter (c := bodyOf Try.f27) Try.func27 rfl (m := 17) rfl rfl rfl ?_
  intro X hX _
  refine c_weak 0 rfl (fun w h => h.1) ?_
  refine c_weak 1 rfl (fun w h => h.2) ?_
  refine c_seq rfl ?_
  refine r_ord (l := [0]) rfl (by kernel_rfl) (by kernel_rfl) ?_
  refine s_v rfl rfl rfl rfl (v_as rfl rfl) ?_
  refine s_end ?_
  refine q_seq ?_
  refine c_seq rfl ?_
  refine r_any [.f (KC k48 A c l), .f (fun w => w.heap[bl]? = some (.cells #[.slice A l.length c] 27 (0, 0))), .f (EvF bl A c l)] (by kernel_rfl) rfl (by kernel_rfl) (mem_pick (idx := [0, 1, 2]) rfl) ?_
  refine a_v 0 rfl (by kernel_rfl) (by kernel_rfl) (by kernel_rfl) rfl rfl rfl (v_ldr 1 rfl Try.underlying27 rfl rfl rfl rfl) ?_
  refine a_v 1 rfl (by kernel_rfl) (by kernel_rfl) (by kernel_rfl) rfl rfl rfl (v_mv rfl rfl) ?_
  refine a_v 2 rfl (by kernel_rfl) (by kernel_rfl) (by kernel_rfl) rfl rfl rfl (v_iaK (i := 0) rfl Try.underlying27 SZ53 rfl rfl rfl rfl (by omega) (by omega)) ?_
  refine a_v 3 rfl (by kernel_rfl) (by kernel_rfl) (by kernel_rfl) rfl rfl rfl (v_fax rfl Try.underlying53 rfl SZ3 rfl) ?_
  refine a_v 4 rfl (by kernel_rfl) (by kernel_rfl) (by kernel_rfl) rfl rfl rfl (v_ldKq (v := .int .i64 (rd_T48 l x).f3) z48 0 rfl Try.underlying3 rfl rfl rfl rfl (by omega) (by omega) (fun w K h => k48_at7 h)) ?_
  refine a_v 5 rfl (by kernel_rfl) (by kernel_rfl) (by kernel_rfl) rfl rfl rfl (v_ldr 1 rfl Try.underlying27 rfl rfl rfl rfl) ?_
  refine a_v 6 rfl (by kernel_rfl) (by kernel_rfl) (by kernel_rfl) rfl rfl rfl (v_mv rfl rfl) ?_
  refine a_v 7 rfl (by kernel_rfl) (by kernel_rfl) (by kernel_rfl) rfl rfl rfl (v_iaK (i := 0) rfl Try.underlying27 SZ53 rfl rfl rfl rfl (by omega) (by omega)) ?_
  refine a_v 8 rfl (by kernel_rfl) (by kernel_rfl) (by kernel_rfl) rfl rfl rfl (v_fax rfl Try.underlying53 rfl SZ3 rfl) ?_
  refine a_v 9 rfl (by kernel_rfl) (by kernel_rfl) (by kernel_rfl) rfl rfl rfl (v_ldKq (v := .int .i64 (rd_T48 l y).f3) z48 0 rfl Try.underlying3 rfl rfl rfl rfl (by omega) (by omega) (fun w K h => k48_at7 h)) ?_
  refine a_1 (i := 10) (by kernel_rfl) ?_
  refine i_e rfl rfl (e_callK (fun z : Unit => .int .i64 (cmp3 ((rd_T48 l x).f3) ((rd_T48 l y).f3))) (fun z => []) #[.int .i64 ((rd_T48 l x).f3), .int .i64 ((rd_T48 l y).f3)] rfl rfl rfl rfl rfl Try.func28 rfl (by decide) rfl rfl (fun w ht => cmp_Compare_int.con ((rd_T48 l x).f3) ((rd_T48 l y).f3) _ (cmp_f _ _) w)) ?_
  intro z1_
  refine ⟨(mem_pick (idx := [0, 1, 2]) rfl), ?_⟩
  refine a_v 11 rfl (by kernel_rfl) (by kernel_rfl) (by kernel_rfl) rfl rfl rfl (v_as rfl rfl) ?_
  refine a_end (by kernel_rfl) ?_
  refine q_seq ?_
  refine c_ret rfl ?_
  refine q_take [] rfl (by decide) ?_
  exact q_post rfl (.cons rfl (.nil)) hX
end Go.Eng
namespace Go.Eng
open Go.Proofs Go.RowKit Go.Proofs.YtiihjijmmephlaaW.PrintWords Go.Proofs.Ytiihjijmmephlaa.GHist
set_option linter.unusedVariables false
set_option linter.unusedSimpArgs false
def hapB (x : S48) : Bool := !(x.f1.f0 == 5) && (!(x.f5 && x.f6.f0) && decide (x.f3 > 0))
def hapTo (l : List S48) (i : Nat) : List Int := ((List.range i).filter (fun (k : Nat) => hapB (rd_T48 l (k : Int)))).map (fun k => ((k : Nat) : Int))
theorem hap_yes {l : List S48} {i : Nat} (h : hapB (rd_T48 l (i : Int)) = true) : hapTo l (i + 1) = hapTo l i ++ [(i : Int)] := by
  simp [hapTo, List.range_succ, List.filter_append, h]
theorem hap_no {l : List S48} {i : Nat} (h : hapB (rd_T48 l (i : Int)) = false) : hapTo l (i + 1) = hapTo l i := by
  simp [hapTo, List.range_succ, List.filter_append, h]
theorem hap_len (l : List S48) (i : Nat) : (hapTo l i).length ≤ i := by
  unfold hapTo
  rw [List.length_map]
  exact Nat.le_trans (List.length_filter_le _ _) (by simp)
theorem hap_mem {l : List S48} {i : Nat} {x : Int} (h : x ∈ hapTo l i) : 0 ≤ x ∧ x < (i : Int) := by
  unfold hapTo at h
  obtain ⟨k, hk, rfl⟩ := List.mem_map.1 h
  have := List.mem_range.1 (List.mem_filter.1 hk).1
  omega
theorem hap_inc (l : List S48) (i : Nat) : (hapTo l i).Pairwise (· < ·) := by
  unfold hapTo
  rw [List.pairwise_map]
  refine List.Pairwise.imp ?_ (List.Pairwise.filter _ (List.pairwise_lt_range (n := i)))
  intro a b h
  omega
theorem hap_gt {l : List S48} {i p q : Nat} (h1 : p < q) (h2 : q < (hapTo l i).length) : gt (hapTo l i) p < gt (hapTo l i) q := by
  rw [gt_eq (show p < _ by omega), gt_eq h2]
  exact List.pairwise_iff_getElem.1 (hap_inc l i) p q (by omega) h2 h1
def QN (k : IntKind) (m : List Int) : Option (Nat × Nat × Nat × Array Value) → Prop
  | none => m = []
  | some (n, _, cap, cur) => n = m.length ∧ 0 < n ∧ n ≤ cap ∧ cap ≤ maxLen ∧ cur.size = cap * 1 ∧ cur.toList.take (n * 1) = m.map (Value.int k)
theorem QN.first {k : IntKind} {m : List Int} {x : Int} (h : m = []) {g cap : Nat} {cur : Array Value} (h1 : 1 ≤ cap) (h2 : cap ≤ maxLen) (h3 : cur.size = cap * 1) (htk : cur.toList.take (1 * 1) = [.int k x]) : QN k (m ++ [x]) (some (1, g, cap, cur)) := by
  subst h
  exact ⟨rfl, by omega, h1, h2, h3, htk⟩
theorem QN.next {k : IntKind} {m : List Int} {x : Int} {n g0 c0 : Nat} {u0 : Array Value} (hs : QN k m (some (n, g0, c0, u0))) {g cap : Nat} {cur : Array Value} (h1 : n + 1 ≤ cap) (h2 : cap ≤ maxLen) (h3 : cur.size = cap * 1) (htk : cur.toList.take ((n + 1) * 1) = u0.toList.take (n * 1) ++ [.int k x]) : QN k (m ++ [x]) (some (n + 1, g, cap, cur)) := by
  obtain ⟨e1, _, _, _, _, e5⟩ := hs
  exact ⟨by simp [e1], by omega, h1, h2, h3, by rw [htk, e5]; simp⟩
end Go.Eng
namespace Go.Eng
open Go.Proofs Go.RowKit Go.Proofs.YtiihjijmmephlaaW.PrintWords Go.Proofs.Ytiihjijmmephlaa.GHist
set_option linter.unusedVariables false
set_option linter.unusedSimpArgs false
theorem KG.agree {G : List Nat} {w W : World} (h : KG w.heap.size G w W) : Agree G w W := ⟨h.os, h.tape, h.output, h.size, fun b hb hn => h.block b hb hn⟩
theorem KG.of_below {n₀ : Nat} {G : List Nat} {A B : World} {b : Nat} (h : Below b A B) (h1 : n₀ ≤ b) : KG n₀ G A B := ⟨h.os, h.tape, h.output, h.size, fun k hk _ => h.block k (by omega)⟩
theorem abides_below {β : Type} {B : Nat} {J : β → World → Prop} (hJ : AbidesFrom B J) {s : β} {W W' : World} (h : J s W) (hb : Below W.heap.size W W') : J s W' :=
  hJ s W W' none h ⟨hb.os, hb.tape, hb.output, hb.size, fun k hk _ => hb.block k hk⟩ (fun r e => by cases e)
theorem tri_disj {w0 w : World} {I : Ix} {L Lm : HL} {i b : Nat} {o : Obj} (ht : Tri w0 I w L) (hi : L[i]? = some (.b b o)) {idx : List Nat} (hp : pick L idx = some Lm) (hn : i ∉ idx) : b ∉ ids Lm := by
  intro hm
  obtain ⟨j, hj, u, hu⟩ := pick_sub hp b hm
  exact hn (nodup_idx ht.nodup hi hu ▸ hj)
theorem pick_ids {L Lm : HL} {idx : List Nat} (hp : pick L idx = some Lm) : ∀ x ∈ ids Lm, x ∈ ids L := by
  intro x hx
  obtain ⟨i, _, o, ho⟩ := pick_sub hp x hx
  exact mem_ids.2 ⟨o, List.mem_of_getElem? ho⟩
def KeysFrom (l : List S56) (at_ : Nat) : List Int := (l.drop at_).map (·.f0)
theorem keysFrom_take (l : List S56) (at_ k : Nat) (hk : k < l.length - at_) : (KeysFrom l at_).take (k + 1) = (KeysFrom l at_).take k ++ [(rd_T56 (l.drop at_) k).f0] := by
  have hlen : k < (KeysFrom l at_).length := by simp only [KeysFrom, List.length_map, List.length_drop]; exact hk
  rw [List.take_add_one, List.getElem?_eq_getElem hlen]
  congr 1
  simp only [KeysFrom, List.getElem_map, Option.toList, rd_T56, Int.toNat_natCast]
  rw [List.getD_eq_getElem?_getD, List.getElem?_eq_getElem (by rw [List.length_drop]; exact hk)]
  rfl
set_option maxHeartbeats 2000000 in
set_option maxRecDepth 100000 in
theorem from1_stops (k n : Nat) (hn : 1 ≤ n) (bm bk : Nat) (G : List Nat) (A : Option Addr) (c : Nat) (l : List S56) (least : Int) (at_ : Nat) (is : Bool) (hp : seq_Map_place.f k l least = some ((at_ : Int), is)) (hat : at_ ≤ l.length) (hlm : l.length ≤ 1000000)
    (w : World) (hBm : w.heap[bm]? = some (.cells #[.slice A l.length c] 35 (0, 0))) (hBk : w.heap[bk]? = some (.cells #[.int .u64 least] 41 (0, 0))) (hmg : bm ∉ G) (hkg : bk ∉ G) (hC : Stab G w (KC k56 A c l)) :
    SeqStopsK Fence.wide n Try.prog 65 #[.pointer (some ⟨bm, 0, none⟩), .pointer (some ⟨bk, 0, none⟩)] (fun x : Int => #[Value.int .u64 x]) (KG w.heap.size G) (fun ys => ys = KeysFrom l at_) (fun pre => pre <+: KeysFrom l at_) (l.length - at_) w := fun L J Jx W hW hJ hJx hY h0 => by
  have hsz := hW.size
  have M := Lib.hid (Blk.below (w := w) ⟨(Array.getElem?_eq_some_iff.1 hBm).1, hBm⟩ hW)
  have K := Lib.hid (Blk.below (w := w) ⟨(Array.getElem?_eq_some_iff.1 hBk).1, hBk⟩ hW)
  have CW := Lib.hid (hC W (Agree.of_below hW))
  have HP := Lib.hid (seq_Map_place.calls k A c l least at_ is W CW.out.1 CW.out.2 hp)
  have hl : l.length ≤ c := CW.out.2
  have hm1 := M.out.cell 0
  have hk1 := K.out.cell 0
  have HC := Lib.hid hC
  have HW := Lib.hid hW
  clear hBm hBk hW hC CW hp
  refine callsIn_of_wp Try.func65 rfl trivial ?_ rfl
  simp only [Try.ntmps65, List.size_toArray, List.length_cons, List.length_nil, Nat.reduceAdd, Nat.reduceSub, Array.replicate_succ, Array.replicate_zero, List.push_toArray, List.append_toArray, List.nil_append, List.cons_append]
  have hatc : at_ ≤ c := by omega
  have ha2 : (at_ : Int) ≤ (l.length : Int) := by omega
  obtain ⟨A', hA, hA2⟩ : ∃ A' : Option Addr, (if c = at_ then A else Option.map (fun x => x.add (at_ * 2)) A) = A' ∧ Hid (A' = if c = at_ then A else A.map (·.add (at_ * k56.sz))) := ⟨_, rfl, Lib.hid rfl⟩
  have hln : l.length - at_ ≤ 1000000 := by omega
  gi_wp2_with (refine ⟨trivial, ?_⟩; gi_at_call 63; refine (callsIn_wide.2 HP.out).mono ?_; clear HP; rintro e w1 ⟨rfl, hbp⟩; have hm2 := (M.out.below hbp).cell 0; have hk2 := (K.out.below hbp).cell 0)
  have h1 : J [] w1 := abides_below hJ h0 hbp
  have hs1 : W.heap.size ≤ w1.heap.size := hbp.size
  have CB := Lib.hid (KG.of_below (n₀ := w.heap.size) (G := G) (HW.out.trans (hbp.mono hsz)) (Nat.le_refl _))
  clear hm1 hk1 hm2 hk2 M K hbp h0 HW
  gi_loopw [19] (fun i wr => ∃ j : Nat, j ≤ l.length - at_ ∧ i = .int .i64 j ∧ J ((KeysFrom l at_).take j) wr ∧ KG w.heap.size G w wr ∧ W.heap.size ≤ wr.heap.size)
    (fun i _ => l.length - at_ - (intOf i).toNat)
  case atStart => exact ⟨0, Nat.zero_le _, rfl, h1, CB.out, hs1⟩
  case round =>
    obtain ⟨j, hj, rfl, hJs, hkb, hsz2⟩ := hrel
    by_cases hlt : j < l.length - at_
    · have CR := Lib.hid (Kd.C_drop (HC.out wr hkb.agree).1 hat hl)
      rw [← hA2.out] at CR
      obtain ⟨ad, hA3, hc1, hc2⟩ := at_T56 CR.out (j : Int) (by omega) (by rw [List.length_drop]; omega)
      rw [hA3]
      simp only [Int.toNat_natCast] at hc1 hc2
      have hba : Below wr.heap.size wr (wr.alloc (.cells #[.int .u64 (rd_T56 (l.drop at_) j).f0, .int .u64 (rd_T56 (l.drop at_) j).f1] 56)) := below_alloc (Below.refl _ _) _
      have hJa := abides_below hJ hJs hba
      obtain ⟨fn, tmps, assign, body, hy, hR⟩ := hY _ (rd_T56 (l.drop at_) j).f0 _ hJa (by rw [List.length_take]; omega)
      gi_wp2
      refine hR.mono ?_
      have hkt := keysFrom_take l at_ j hlt
      have hka : KG w.heap.size G wr (wr.alloc (.cells #[.int .u64 (rd_T56 (l.drop at_) j).f0, .int .u64 (rd_T56 (l.drop at_) j).f1] 56)) := KG.of_below hba (by omega)
      rintro e W3 (⟨rfl, hJ3, hk3⟩ | ⟨rfl, hJx3⟩)
      · gi_wp2
        go_roundw
        case rel => exact ⟨j + 1, by omega, by simp, by rw [hkt]; exact hJ3, (hkb.trans hka).trans hk3, Nat.le_trans hsz2 (Nat.le_trans hba.size hk3.size)⟩
        case measure => simp [intOf]; omega
      · gi_wp2
        refine bodyPost_ret (results_none rfl _ _ _) rfl ?_
        exact ⟨⟨_, rfl⟩, .inr ⟨_, by rw [← hkt]; exact List.take_prefix _ _, hJx3⟩⟩
    · obtain rfl : j = l.length - at_ := by omega
      gi_wp2
      go_end0
      exact ⟨⟨_, rfl⟩, .inl ⟨_, rfl, by rwa [List.take_of_length_le (by simp [KeysFrom])] at hJs⟩⟩
end Go.Eng
namespace Go.Eng
open Go.Proofs Go.RowKit Go.Proofs.YtiihjijmmephlaaW.PrintWords Go.Proofs.Ytiihjijmmephlaa.GHist
set_option linter.unusedVariables false
set_option maxRecDepth 100000 in
set_option maxHeartbeats 4000000 in
theorem do_get (k : Nat) (A : Option Addr) (c : Nat) (l : List S56) (o1 o2 o3 o4 : Int) (r2 r3 : Bool) (r4 : Int) (r5 : List Int) (hget : seq_Map_get.f k l o1 = some (r2, r3, r4, r5)) (w0 : World) (H : List Nat) : Con Try.prog 23 #[.agg #[.slice A l.length c], .agg #[.int .i64 1, .int .u64 o1, .int .u64 o2, .int .i64 o3, .int .i64 o4]] w0 H [.f (KC k56 A c l)] (fun X => ∀ A1 c1 A2 c2, X (.tuple #[.agg #[.slice A1 (l).length c1], .agg #[.bool r2, .bool r3, .int .u64 r4, .slice A2 r5.length c2]]) [.f (KC k56 A1 c1 (l)), .f (KC (Kd.int .u64) A2 c2 r5)]) := by
  refine con_enterM (c := bodyOf Try.f23) (k := 9) Try.func23 rfl (m := 84) rfl rfl rfl ?_
  intro X hX _
  refine c_seq rfl ?_
  refine r_ord (l := [0, 1, 2, 3]) rfl (by kernel_rfl) (by kernel_rfl) ?_
  refine s_e rfl rfl (e_box rfl rfl rfl rfl) ?_
  intro b1_
  refine s_e rfl rfl (e_box rfl rfl rfl rfl) ?_
  intro b2_
  refine s_e rfl rfl (e_alloc rfl rfl rfl ZR35) ?_
  intro b3_
  refine s_e rfl rfl (e_alloc rfl rfl rfl ZR46) ?_
  intro b4_
  refine s_end ?_
  refine q_seq ?_
  refine c_seq rfl ?_
  refine r_ord (l := [0]) rfl (by kernel_rfl) (by kernel_rfl) ?_
  refine s_e rfl rfl (e_alloc rfl rfl rfl ZR46) ?_
  intro b5_
  refine s_end ?_
  refine q_seq ?_
  refine c_seq rfl ?_
  refine c_seq rfl ?_
  refine r_ord (l := [0, 1]) rfl (by kernel_rfl) (by kernel_rfl) ?_
  refine s_v rfl rfl rfl rfl (v_fa rfl Try.underlying43 rfl SZ3 rfl) ?_
  refine s_v rfl rfl rfl rfl (v_ld 3 rfl Try.underlying3 rfl rfl rfl rfl) ?_
  refine s_end ?_
  refine q_seq ?_
  refine c_block rfl ?_
  refine c_seq rfl ?_
  refine r_ord (l := [0, 1]) rfl (by kernel_rfl) (by kernel_rfl) ?_
  refine s_v rfl rfl rfl rfl (v_ar rfl rfl rfl rfl) ?_
  refine s_v rfl rfl rfl rfl (v_as rfl rfl) ?_
  refine s_end ?_
  refine q_seq ?_
  refine c_cond1 rfl rfl ?_
  refine c_seq rfl ?_
  refine r_any [.b b5_ (.cells #[.bool false, .bool false, .int .u64 0, .slice none 0 0] 46 (0, 0)), .b b2_ (.cells #[.int .i64 1, .int .u64 o1, .int .u64 o2, .int .i64 o3, .int .i64 o4] 43 (0, 0)), .b b1_ (.cells #[.slice A l.length c] 35 (0, 0)), .f (KC k56 A c l)] (by kernel_rfl) rfl (by kernel_rfl) (mem_pick (idx := [0, 3, 4, 5]) rfl) ?_
  refine a_v 0 rfl (by kernel_rfl) (by kernel_rfl) (by kernel_rfl) rfl rfl rfl (v_ldA [.slice A l.length c] 2 rfl Try.underlying35 rfl SZ35 rfl rfl rfl rfl) ?_
  refine a_v 1 rfl (by kernel_rfl) (by kernel_rfl) (by kernel_rfl) rfl rfl rfl (v_ldA [.slice A l.length c] 2 rfl Try.underlying35 rfl SZ35 rfl rfl rfl rfl) ?_
  refine a_v 2 rfl (by kernel_rfl) (by kernel_rfl) (by kernel_rfl) rfl rfl rfl (v_fa rfl Try.underlying43 rfl SZ41 rfl) ?_
  refine a_v 3 rfl (by kernel_rfl) (by kernel_rfl) (by kernel_rfl) rfl rfl rfl (v_ld 1 rfl Try.underlying41 rfl rfl rfl rfl) ?_
  refine a_1 (i := 4) (by kernel_rfl) ?_
  refine i_e rfl rfl (e_callK (fun z : Option Addr × Nat => .agg #[.bool r2, .bool r3, .int .u64 r4, .slice z.1 r5.length z.2]) (fun z => [KC (Kd.int .u64) z.1 z.2 r5]) #[.agg #[.slice A l.length c], .int .u64 o1] rfl rfl rfl rfl rfl Try.func47 rfl (by decide) rfl rfl (fun w ht => seq_Map_get.con k _ _ l o1 r2 r3 r4 r5 hget w (Tri.fact ht 5 rfl))) ?_
  intro z6_
  refine ⟨(mem_pick (idx := [1, 4, 5, 6]) rfl), ?_⟩
  refine a_1 (i := 5) (by kernel_rfl) ?_
  refine i_e rfl rfl (e_stA 3 rfl rfl SZ35 rfl rfl rfl rfl rfl rfl) ?_
  refine ⟨(mem_pick (idx := [1, 4, 5, 6]) rfl), ?_⟩
  refine a_1 (i := 6) (by kernel_rfl) ?_
  refine i_e rfl rfl (e_stA 2 rfl rfl SZ46 rfl rfl rfl rfl rfl rfl) ?_
  refine ⟨(mem_pick (idx := [1, 4, 5, 6]) rfl), ?_⟩
  refine a_end (by kernel_rfl) ?_
  refine q_seq ?_
  refine c_ret rfl ?_
  refine q_block_ret ?_
  refine q_then_ret ?_
  exact q_retM (k := 9) (vs := [.agg #[.slice A l.length c], .agg #[.bool r2, .bool r3, .int .u64 r4, .slice z6_.1 r5.length z6_.2]]) (.inl rfl) rfl (.agg [.slice A l.length c] 3 rfl Try.underlying35 rfl SZ35 rfl rfl rfl (.agg [.bool r2, .bool r3, .int .u64 r4, .slice z6_.1 r5.length z6_.2] 2 rfl Try.underlying46 rfl SZ46 rfl rfl rfl .nil)) [6, 0] rfl (by decide) (hX _ _ _ _)
set_option maxRecDepth 100000 in
set_option maxHeartbeats 4000000 in
theorem do_put (k : Nat) (A : Option Addr) (c : Nat) (l : List S56) (o1 o2 o3 o4 : Int) (r2 r3 : Bool) (r4 : Int) (r5 : List Int) (r1 : List S56) (hwith : seq_Map_with.f k l o1 o2 = some r1) (hget : seq_Map_get.f k l o1 = some (r2, r3, r4, r5)) (w0 : World) (H : List Nat) : Con Try.prog 23 #[.agg #[.slice A l.length c], .agg #[.int .i64 2, .int .u64 o1, .int .u64 o2, .int .i64 o3, .int .i64 o4]] w0 H [.f (KC k56 A c l)] (fun X => ∀ A1 c1 A2 c2, X (.tuple #[.agg #[.slice A1 (r1).length c1], .agg #[.bool r2, .bool r3, .int .u64 r4, .slice A2 r5.length c2]]) [.f (KC k56 A1 c1 (r1)), .f (KC (Kd.int .u64) A2 c2 r5)]) := by
  refine con_enterM (c := bodyOf Try.f23) (k := 9) Try.func23 rfl (m := 84) rfl rfl rfl ?_
  intro X hX _
  refine c_seq rfl ?_
  refine r_ord (l := [0, 1, 2, 3]) rfl (by kernel_rfl) (by kernel_rfl) ?_
  refine s_e rfl rfl (e_box rfl rfl rfl rfl) ?_
  intro b1_
  refine s_e rfl rfl (e_box rfl rfl rfl rfl) ?_
  intro b2_
  refine s_e rfl rfl (e_alloc rfl rfl rfl ZR35) ?_
  intro b3_
  refine s_e rfl rfl (e_alloc rfl rfl rfl ZR46) ?_
  intro b4_
  refine s_end ?_
  refine q_seq ?_
  refine c_seq rfl ?_
  refine r_ord (l := [0]) rfl (by kernel_rfl) (by kernel_rfl) ?_
  refine s_e rfl rfl (e_alloc rfl rfl rfl ZR46) ?_
  intro b5_
  refine s_end ?_
  refine q_seq ?_
  refine c_seq rfl ?_
  refine c_seq rfl ?_
  refine r_ord (l := [0, 1]) rfl (by kernel_rfl) (by kernel_rfl) ?_
  refine s_v rfl rfl rfl rfl (v_fa rfl Try.underlying43 rfl SZ3 rfl) ?_
  refine s_v rfl rfl rfl rfl (v_ld 3 rfl Try.underlying3 rfl rfl rfl rfl) ?_
  refine s_end ?_
  refine q_seq ?_
  refine c_block rfl ?_
  refine c_seq rfl ?_
  refine r_ord (l := [0, 1]) rfl (by kernel_rfl) (by kernel_rfl) ?_
  refine s_v rfl rfl rfl rfl (v_ar rfl rfl rfl rfl) ?_
  refine s_v rfl rfl rfl rfl (v_as rfl rfl) ?_
  refine s_end ?_
  refine q_seq ?_
  refine c_cond0 rfl rfl ?_
  refine c_seq rfl ?_
  refine r_ord (l := [0, 1]) rfl (by kernel_rfl) (by kernel_rfl) ?_
  refine s_v rfl rfl rfl rfl (v_ar rfl rfl rfl rfl) ?_
  refine s_v rfl rfl rfl rfl (v_as rfl rfl) ?_
  refine s_end ?_
  refine q_seq ?_
  refine c_cond1 rfl rfl ?_
  refine c_seq rfl ?_
  refine r_any [.b b5_ (.cells #[.bool false, .bool false, .int .u64 0, .slice none 0 0] 46 (0, 0)), .b b2_ (.cells #[.int .i64 2, .int .u64 o1, .int .u64 o2, .int .i64 o3, .int .i64 o4] 43 (0, 0)), .b b1_ (.cells #[.slice A l.length c] 35 (0, 0)), .f (KC k56 A c l)] (by kernel_rfl) rfl (by kernel_rfl) (mem_pick (idx := [0, 3, 4, 5]) rfl) ?_
  refine a_v 0 rfl (by kernel_rfl) (by kernel_rfl) (by kernel_rfl) rfl rfl rfl (v_ldA [.slice A l.length c] 2 rfl Try.underlying35 rfl SZ35 rfl rfl rfl rfl) ?_
  refine a_v 1 rfl (by kernel_rfl) (by kernel_rfl) (by kernel_rfl) rfl rfl rfl (v_fa rfl Try.underlying43 rfl SZ41 rfl) ?_
  refine a_v 2 rfl (by kernel_rfl) (by kernel_rfl) (by kernel_rfl) rfl rfl rfl (v_ld 1 rfl Try.underlying41 rfl rfl rfl rfl) ?_
  refine a_v 3 rfl (by kernel_rfl) (by kernel_rfl) (by kernel_rfl) rfl rfl rfl (v_fa rfl Try.underlying43 rfl SZ41 rfl) ?_
  refine a_v 4 rfl (by kernel_rfl) (by kernel_rfl) (by kernel_rfl) rfl rfl rfl (v_ld 1 rfl Try.underlying41 rfl rfl rfl rfl) ?_
  refine a_v 5 rfl (by kernel_rfl) (by kernel_rfl) (by kernel_rfl) rfl rfl rfl (v_build (places := #[(0, 1), (1, 1)]) #[.int .u64 o1, .int .u64 o2] rfl ZR56 Try.underlying56 (by kernel_rfl) rfl rfl) ?_
  refine a_v 7 rfl (by kernel_rfl) (by kernel_rfl) (by kernel_rfl) rfl rfl rfl (v_ldA [.slice A l.length c] 2 rfl Try.underlying35 rfl SZ35 rfl rfl rfl rfl) ?_
  refine a_v 8 rfl (by kernel_rfl) (by kernel_rfl) (by kernel_rfl) rfl rfl rfl (v_fa rfl Try.underlying43 rfl SZ41 rfl) ?_
  refine a_v 9 rfl (by kernel_rfl) (by kernel_rfl) (by kernel_rfl) rfl rfl rfl (v_ld 1 rfl Try.underlying41 rfl rfl rfl rfl) ?_
  refine a_1 (i := 6) (by kernel_rfl) ?_
  refine i_e rfl rfl (e_callK (fun z : Option Addr × Nat => .agg #[.slice z.1 r1.length z.2]) (fun z => [KC k56 z.1 z.2 r1]) #[.agg #[.slice A l.length c], .agg #[.int .u64 o1, .int .u64 o2]] rfl rfl rfl rfl rfl Try.func48 rfl (by decide) rfl rfl (fun w ht => seq_Map_with.con k _ _ l o1 o2 r1 hwith w (Tri.fact ht 5 rfl))) ?_
  intro z6_
  refine ⟨(mem_pick (idx := [1, 4, 5, 6]) rfl), ?_⟩
  refine a_1 (i := 10) (by kernel_rfl) ?_
  refine i_e rfl rfl (e_callK (fun z : Option Addr × Nat => .agg #[.bool r2, .bool r3, .int .u64 r4, .slice z.1 r5.length z.2]) (fun z => [KC (Kd.int .u64) z.1 z.2 r5]) #[.agg #[.slice A l.length c], .int .u64 o1] rfl rfl rfl rfl rfl Try.func47 rfl (by decide) rfl rfl (fun w ht => seq_Map_get.con k _ _ l o1 r2 r3 r4 r5 hget w (Tri.fact ht 6 rfl))) ?_
  intro z7_
  refine ⟨(mem_pick (idx := [2, 5, 6, 7]) rfl), ?_⟩
  refine a_1 (i := 11) (by kernel_rfl) ?_
  refine i_e rfl rfl (e_stA 4 rfl rfl SZ35 rfl rfl rfl rfl rfl rfl) ?_
  refine ⟨(mem_pick (idx := [2, 5, 6, 7]) rfl), ?_⟩
  refine a_1 (i := 12) (by kernel_rfl) ?_
  refine i_e rfl rfl (e_stA 3 rfl rfl SZ46 rfl rfl rfl rfl rfl rfl) ?_
  refine ⟨(mem_pick (idx := [2, 5, 6, 7]) rfl), ?_⟩
  refine a_end (by kernel_rfl) ?_
  refine q_seq ?_
  refine c_ret rfl ?_
  refine q_block_ret ?_
  refine q_then_ret ?_
  exact q_retM (k := 9) (vs := [.agg #[.slice z6_.1 r1.length z6_.2], .agg #[.bool r2, .bool r3, .int .u64 r4, .slice z7_.1 r5.length z7_.2]]) (.inl rfl) rfl (.agg [.slice z6_.1 r1.length z6_.2] 4 rfl Try.underlying35 rfl SZ35 rfl rfl rfl (.agg [.bool r2, .bool r3, .int .u64 r4, .slice z7_.1 r5.length z7_.2] 3 rfl Try.underlying46 rfl SZ46 rfl rfl rfl .nil)) [1, 0] rfl (by decide) (hX _ _ _ _)
set_option maxRecDepth 100000 in
set_option maxHeartbeats 4000000 in
theorem do_delete (k : Nat) (A : Option Addr) (c : Nat) (l : List S56) (o1 o2 o3 o4 : Int) (r2 r3 : Bool) (r4 : Int) (r5 : List Int) (r1 : List S56) (rn : Int) (hwo : seq_Map_without.f k l o1 = some (r1, rn)) (hget : seq_Map_get.f k l o1 = some (r2, r3, r4, r5)) (w0 : World) (H : List Nat) : Con Try.prog 23 #[.agg #[.slice A l.length c], .agg #[.int .i64 3, .int .u64 o1, .int .u64 o2, .int .i64 o3, .int .i64 o4]] w0 H [.f (KC k56 A c l)] (fun X => ∀ A1 c1 A2 c2, X (.tuple #[.agg #[.slice A1 (r1).length c1], .agg #[.bool r2, .bool r3, .int .u64 r4, .slice A2 r5.length c2]]) [.f (KC k56 A1 c1 (r1)), .f (KC (Kd.int .u64) A2 c2 r5)]) := by
  refine con_enterM (c := bodyOf Try.f23) (k := 9) Try.func23 rfl (m := 84) rfl rfl rfl ?_
  intro X hX _
  refine c_seq rfl ?_
  refine r_ord (l := [0, 1, 2, 3]) rfl (by kernel_rfl) (by kernel_rfl) ?_
  refine s_e rfl rfl (e_box rfl rfl rfl rfl) ?_
  intro b1_
  refine s_e rfl rfl (e_box rfl rfl rfl rfl) ?_
  intro b2_
  refine s_e rfl rfl (e_alloc rfl rfl rfl ZR35) ?_
  intro b3_
  refine s_e rfl rfl (e_alloc rfl rfl rfl ZR46) ?_
  intro b4_
  refine s_end ?_
  refine q_seq ?_
  refine c_seq rfl ?_
  refine r_ord (l := [0]) rfl (by kernel_rfl) (by kernel_rfl) ?_
  refine s_e rfl rfl (e_alloc rfl rfl rfl ZR46) ?_
  intro b5_
  refine s_end ?_
  refine q_seq ?_
  refine c_seq rfl ?_
  refine c_seq rfl ?_
  refine r_ord (l := [0, 1]) rfl (by kernel_rfl) (by kernel_rfl) ?_
  refine s_v rfl rfl rfl rfl (v_fa rfl Try.underlying43 rfl SZ3 rfl) ?_
  refine s_v rfl rfl rfl rfl (v_ld 3 rfl Try.underlying3 rfl rfl rfl rfl) ?_
  refine s_end ?_
  refine q_seq ?_
  refine c_block rfl ?_
  refine c_seq rfl ?_
  refine r_ord (l := [0, 1]) rfl (by kernel_rfl) (by kernel_rfl) ?_
  refine s_v rfl rfl rfl rfl (v_ar rfl rfl rfl rfl) ?_
  refine s_v rfl rfl rfl rfl (v_as rfl rfl) ?_
  refine s_end ?_
  refine q_seq ?_
  refine c_cond0 rfl rfl ?_
  refine c_seq rfl ?_
  refine r_ord (l := [0, 1]) rfl (by kernel_rfl) (by kernel_rfl) ?_
  refine s_v rfl rfl rfl rfl (v_ar rfl rfl rfl rfl) ?_
  refine s_v rfl rfl rfl rfl (v_as rfl rfl) ?_
  refine s_end ?_
  refine q_seq ?_
  refine c_cond0 rfl rfl ?_
  refine c_seq rfl ?_
  refine r_ord (l := [0, 1]) rfl (by kernel_rfl) (by kernel_rfl) ?_
  refine s_v rfl rfl rfl rfl (v_ar rfl rfl rfl rfl) ?_
  refine s_v rfl rfl rfl rfl (v_as rfl rfl) ?_
  refine s_end ?_
  refine q_seq ?_
  refine c_cond1 rfl rfl ?_
  refine c_seq rfl ?_
  refine r_ord (l := [0, 1, 2, 3, 4, 5, 6, 7, 8, 9]) rfl (by kernel_rfl) (by kernel_rfl) ?_
  refine s_v rfl rfl rfl rfl (v_ldA [.slice A l.length c] 4 rfl Try.underlying35 rfl SZ35 rfl rfl rfl rfl) ?_
  refine s_v rfl rfl rfl rfl (v_fa rfl Try.underlying43 rfl SZ41 rfl) ?_
  refine s_v rfl rfl rfl rfl (v_ld 3 rfl Try.underlying41 rfl rfl rfl rfl) ?_
  refine s_e rfl rfl (e_callK (fun z : Option Addr × Nat => .tuple #[.agg #[.slice z.1 r1.length z.2], .int .i64 rn]) (fun z => [KC k56 z.1 z.2 r1]) #[.agg #[.slice A l.length c], .int .u64 o1] rfl rfl rfl rfl rfl Try.func49 rfl (by decide) rfl rfl (fun w ht => seq_Map_without.con k _ _ l o1 r1 rn hwo w (Tri.fact ht 5 rfl))) ?_
  intro z6_
  refine s_v rfl rfl rfl rfl (v_mv rfl rfl) ?_
  refine s_v rfl rfl rfl rfl (v_ext rfl rfl rfl) ?_
  refine s_v rfl rfl rfl rfl (v_ext rfl rfl rfl) ?_
  refine s_e rfl rfl (e_alloc rfl rfl rfl ZR35) ?_
  intro b7_
  refine s_e rfl rfl (e_stA 0 rfl rfl SZ35 rfl rfl rfl rfl rfl rfl) ?_
  refine s_v rfl rfl rfl rfl (v_as rfl rfl) ?_
  refine s_end ?_
  refine q_seq ?_
  refine c_seq rfl ?_
  refine r_any [.b b7_ (.cells #[.slice z6_.1 r1.length z6_.2] 35 (0, 0)), .f (KC k56 z6_.1 z6_.2 r1), .b b5_ (.cells #[.bool false, .bool false, .int .u64 0, .slice none 0 0] 46 (0, 0)), .b b2_ (.cells #[.int .i64 3, .int .u64 o1, .int .u64 o2, .int .i64 o3, .int .i64 o4] 43 (0, 0)), .b b1_ (.cells #[.slice A l.length c] 35 (0, 0)), .f (KC k56 A c l)] (by kernel_rfl) rfl (by kernel_rfl) (mem_pick (idx := [0, 1, 2, 5, 6, 7]) rfl) ?_
  refine a_v 0 rfl (by kernel_rfl) (by kernel_rfl) (by kernel_rfl) rfl rfl rfl (v_ldA [.slice z6_.1 r1.length z6_.2] 0 rfl Try.underlying35 rfl SZ35 rfl rfl rfl rfl) ?_
  refine a_v 1 rfl (by kernel_rfl) (by kernel_rfl) (by kernel_rfl) rfl rfl rfl (v_ldA [.slice A l.length c] 4 rfl Try.underlying35 rfl SZ35 rfl rfl rfl rfl) ?_
  refine a_v 2 rfl (by kernel_rfl) (by kernel_rfl) (by kernel_rfl) rfl rfl rfl (v_fa rfl Try.underlying43 rfl SZ41 rfl) ?_
  refine a_v 3 rfl (by kernel_rfl) (by kernel_rfl) (by kernel_rfl) rfl rfl rfl (v_ld 3 rfl Try.underlying41 rfl rfl rfl rfl) ?_
  refine a_1 (i := 4) (by kernel_rfl) ?_
  refine i_e rfl rfl (e_callK (fun z : Option Addr × Nat => .agg #[.bool r2, .bool r3, .int .u64 r4, .slice z.1 r5.length z.2]) (fun z => [KC (Kd.int .u64) z.1 z.2 r5]) #[.agg #[.slice A l.length c], .int .u64 o1] rfl rfl rfl rfl rfl Try.func47 rfl (by decide) rfl rfl (fun w ht => seq_Map_get.con k _ _ l o1 r2 r3 r4 r5 hget w (Tri.fact ht 7 rfl))) ?_
  intro z8_
  refine ⟨(mem_pick (idx := [1, 2, 3, 6, 7, 8]) rfl), ?_⟩
  refine a_1 (i := 5) (by kernel_rfl) ?_
  refine i_e rfl rfl (e_stA 5 rfl rfl SZ35 rfl rfl rfl rfl rfl rfl) ?_
  refine ⟨(mem_pick (idx := [1, 2, 3, 6, 7, 8]) rfl), ?_⟩
  refine a_1 (i := 6) (by kernel_rfl) ?_
  refine i_e rfl rfl (e_stA 4 rfl rfl SZ46 rfl rfl rfl rfl rfl rfl) ?_
  refine ⟨(mem_pick (idx := [1, 2, 3, 6, 7, 8]) rfl), ?_⟩
  refine a_end (by kernel_rfl) ?_
  refine q_seq ?_
  refine c_ret rfl ?_
  refine q_block_ret ?_
  refine q_then_ret ?_
  exact q_retM (k := 9) (vs := [.agg #[.slice z6_.1 r1.length z6_.2], .agg #[.bool r2, .bool r3, .int .u64 r4, .slice z8_.1 r5.length z8_.2]]) (.inl rfl) rfl (.agg [.slice z6_.1 r1.length z6_.2] 5 rfl Try.underlying35 rfl SZ35 rfl rfl rfl (.agg [.bool r2, .bool r3, .int .u64 r4, .slice z8_.1 r5.length z8_.2] 4 rfl Try.underlying46 rfl SZ46 rfl rfl rfl .nil)) [2, 0] rfl (by decide) (hX _ _ _ _)
end Go.Eng
namespace Go.Eng
open Go.Proofs Go.RowKit Go.Proofs.YtiihjijmmephlaaW.PrintWords Go.Proofs.Ytiihjijmmephlaa.GHist
set_option linter.unusedVariables false
set_option maxRecDepth 100000 in
set_option maxHeartbeats 4000000 in
theorem from_con (A : Option Addr) (n c : Nat) (o1 : Int) (w0 : World) (H : List Nat) : Con Try.prog 50 #[.agg #[.slice A n c], .int .u64 o1] w0 H [] (fun X => ∀ bm bk, X (.func (.func 65) #[] #[.pointer (some ⟨bm, 0, none⟩), .pointer (some ⟨bk, 0, none⟩)]) [.b bk (.cells #[.int .u64 o1] 41 (0, 0)), .b bm (.cells #[.slice A n c] 35 (0, 0))]) := by
  refine con_enter (c := bodyOf Try.f50) Try.func50 rfl (m := 6) rfl rfl rfl ?_
  intro X hX _
  refine c_seq rfl ?_
  refine r_ord (l := [0, 1, 2]) rfl (by kernel_rfl) (by kernel_rfl) ?_
  refine s_e rfl rfl (e_box rfl rfl rfl rfl) ?_
  intro b1_
  refine s_e rfl rfl (e_box rfl rfl rfl rfl) ?_
  intro b2_
  refine s_v rfl rfl rfl rfl (v_as rfl rfl) ?_
  refine s_end ?_
  refine q_seq ?_
  refine c_seq rfl ?_
  refine r_ord (l := [0, 1]) rfl (by kernel_rfl) (by kernel_rfl) ?_
  refine s_v rfl rfl rfl rfl (v_mf rfl rfl rfl) ?_
  refine s_v rfl rfl rfl rfl (v_as rfl rfl) ?_
  refine s_end ?_
  refine q_seq ?_
  refine c_ret rfl ?_
  exact q_post rfl (.cons rfl (.nil)) (hX _ _)
end Go.Eng
namespace Go.Eng
open Go.Proofs Go.RowKit Go.Proofs.YtiihjijmmephlaaW.PrintWords Go.Proofs.Ytiihjijmmephlaa.GHist
set_option linter.unusedVariables false
def RInv (o2 o4 : Int) (pre : List Int) : Option (Nat × Nat × Nat × Array Value) → Prop
  | none => pre = []
  | some (n, _, cap, cur) => (n = pre.length ∧ n ≤ cap ∧ cap ≤ maxLen ∧ cur.size = cap * 1 ∧ cur.toList.take (n * 1) = pre.map (Value.int .u64)) ∧ (∀ y ∈ pre, y ≤ o2) ∧ ∀ i : Nat, i < pre.length → (i : Int) < o4
theorem RInv.good {o2 o4 : Int} {pre : List Int} {s : Option (Nat × Nat × Nat × Array Value)} (h : RInv o2 o4 pre s) : (∀ y ∈ pre, y ≤ o2) ∧ ∀ i : Nat, i < pre.length → (i : Int) < o4 := by
  cases s with
  | none => cases h; exact ⟨fun _ h => (by cases h), fun _ h => absurd h (Nat.not_lt_zero _)⟩
  | some s => exact h.2
theorem RInv.first {o2 o4 x : Int} (h : x ≤ o2) (h4 : (0 : Int) < o4) {g cap : Nat} {cur : Array Value} (h1 : 1 ≤ cap) (h2 : cap ≤ maxLen) (h3 : cur.size = cap * 1) (htk : cur.toList.take (1 * 1) = [.int .u64 x]) : RInv o2 o4 ([] ++ [x]) (some (1, g, cap, cur)) := by
  refine ⟨⟨rfl, h1, h2, h3, htk⟩, fun y hy => ?_, fun i hi => ?_⟩
  · have : y = x := by simpa using hy
    omega
  · have : i < 1 := by simpa using hi
    omega
theorem RInv.next {o2 o4 x : Int} {pre : List Int} {n g0 c0 : Nat} {u0 : Array Value} (hs : RInv o2 o4 pre (some (n, g0, c0, u0))) (h : x ≤ o2) (h4 : (n : Int) < o4) {g cap : Nat} {cur : Array Value} (h1 : n + 1 ≤ cap) (h2 : cap ≤ maxLen) (h3 : cur.size = cap * 1) (htk : cur.toList.take ((n + 1) * 1) = u0.toList.take (n * 1) ++ [.int .u64 x]) : RInv o2 o4 (pre ++ [x]) (some (n + 1, g, cap, cur)) := by
  obtain ⟨⟨e1, _, _, _, e5⟩, hy, hi⟩ := hs
  refine ⟨⟨by simp [e1], h1, h2, h3, by rw [htk, e5]; simp⟩, fun y hm => ?_, fun i hlt => ?_⟩
  · rcases List.mem_append.1 hm with hm | hm
    · exact hy y hm
    · have : y = x := by simpa using hm
      omega
  · have : i < n + 1 := by simpa [e1] using hlt
    omega
set_option maxRecDepth 100000 in
set_option maxHeartbeats 4000000 in
theorem do_range (k : Nat) (A : Option Addr) (c : Nat) (l : List S56) (o1 o2 o3 o4 : Int) (at_ : Nat) (is : Bool) (hp : seq_Map_place.f k l o1 = some ((at_ : Int), is)) (hat : at_ ≤ l.length) (hlm : l.length ≤ 1000000) (r5 : List Int) (hr0 : (∀ y ∈ KeysFrom l at_, y ≤ o2) → (∀ i : Nat, i < (KeysFrom l at_).length → (i : Int) < o3) → r5 = KeysFrom l at_) (hr1 : ∀ p x, p ++ [x] <+: KeysFrom l at_ → (∀ y ∈ p, y ≤ o2) → (∀ i : Nat, i < p.length → (i : Int) < o3) → (o2 < x ∨ o3 ≤ (p.length : Int)) → r5 = p) (w0 : World) (H : List Nat) : Con Try.prog 23 #[.agg #[.slice A l.length c], .agg #[.int .i64 5, .int .u64 o1, .int .u64 o2, .int .i64 o3, .int .i64 o4]] w0 H [.f (KC k56 A c l)] (fun X => ∀ A2 c2, X (.tuple #[.agg #[.slice A l.length c], .agg #[.bool false, .bool false, .int .u64 0, .slice A2 r5.length c2]]) [.f (KC k56 A c l), .f (KC (Kd.int .u64) A2 c2 r5)]) := by
  refine con_enterM (c := bodyOf Try.f23) (k := 9) Try.func23 rfl (m := 84) rfl rfl rfl ?_
  intro X hX _
  refine c_seq rfl ?_
  refine r_ord (l := [0, 1, 2, 3]) rfl (by kernel_rfl) (by kernel_rfl) ?_
  refine s_e rfl rfl (e_box rfl rfl rfl rfl) ?_
  intro b1_
  refine s_e rfl rfl (e_box rfl rfl rfl rfl) ?_
  intro b2_
  refine s_e rfl rfl (e_alloc rfl rfl rfl ZR35) ?_
  intro b3_
  refine s_e rfl rfl (e_alloc rfl rfl rfl ZR46) ?_
  intro b4_
  refine s_end ?_
  refine q_seq ?_
  refine c_seq rfl ?_
  refine r_ord (l := [0]) rfl (by kernel_rfl) (by kernel_rfl) ?_
  refine s_e rfl rfl (e_alloc rfl rfl rfl ZR46) ?_
  intro b5_
  refine s_end ?_
  refine q_seq ?_
  refine c_seq rfl ?_
  refine c_seq rfl ?_
  refine r_ord (l := [0, 1]) rfl (by kernel_rfl) (by kernel_rfl) ?_
  refine s_v rfl rfl rfl rfl (v_fa rfl Try.underlying43 rfl SZ3 rfl) ?_
  refine s_v rfl rfl rfl rfl (v_ld 3 rfl Try.underlying3 rfl rfl rfl rfl) ?_
  refine s_end ?_
  refine q_seq ?_
  refine c_block rfl ?_
  refine c_seq rfl ?_
  refine r_ord (l := [0, 1]) rfl (by kernel_rfl) (by kernel_rfl) ?_
  refine s_v rfl rfl rfl rfl (v_ar rfl rfl rfl rfl) ?_
  refine s_v rfl rfl rfl rfl (v_as rfl rfl) ?_
  refine s_end ?_
  refine q_seq ?_
  refine c_cond0 rfl rfl ?_
  refine c_seq rfl ?_
  refine r_ord (l := [0, 1]) rfl (by kernel_rfl) (by kernel_rfl) ?_
  refine s_v rfl rfl rfl rfl (v_ar rfl rfl rfl rfl) ?_
  refine s_v rfl rfl rfl rfl (v_as rfl rfl) ?_
  refine s_end ?_
  refine q_seq ?_
  refine c_cond0 rfl rfl ?_
  refine c_seq rfl ?_
  refine r_ord (l := [0, 1]) rfl (by kernel_rfl) (by kernel_rfl) ?_
  refine s_v rfl rfl rfl rfl (v_ar rfl rfl rfl rfl) ?_
  refine s_v rfl rfl rfl rfl (v_as rfl rfl) ?_
  refine s_end ?_
  refine q_seq ?_
  refine c_cond0 rfl rfl ?_
  refine c_seq rfl ?_
  refine r_ord (l := [0, 1]) rfl (by kernel_rfl) (by kernel_rfl) ?_
  refine s_v rfl rfl rfl rfl (v_ar rfl rfl rfl rfl) ?_
  refine s_v rfl rfl rfl rfl (v_as rfl rfl) ?_
  refine s_end ?_
  refine q_seq ?_
  refine c_cond0 rfl rfl ?_
  refine c_seq rfl ?_
  refine r_ord (l := [0, 1]) rfl (by kernel_rfl) (by kernel_rfl) ?_
  refine s_v rfl rfl rfl rfl (v_ar rfl rfl rfl rfl) ?_
  refine s_v rfl rfl rfl rfl (v_as rfl rfl) ?_
  refine s_end ?_
  refine q_seq ?_
  refine c_cond1 rfl rfl ?_
  refine c_seq rfl ?_
  refine r_ord (l := [0, 1, 2, 3]) rfl (by kernel_rfl) (by kernel_rfl) ?_
  refine s_v rfl rfl rfl rfl (v_ldA [.slice A l.length c] 4 rfl Try.underlying35 rfl SZ35 rfl rfl rfl rfl) ?_
  refine s_v rfl rfl rfl rfl (v_fa rfl Try.underlying43 rfl SZ41 rfl) ?_
  refine s_v rfl rfl rfl rfl (v_ld 3 rfl Try.underlying41 rfl rfl rfl rfl) ?_
  refine s_e rfl rfl (e_call [] [0, 1, 2, 3, 4, 5] #[.agg #[.slice A l.length c], .int .u64 o1] rfl rfl rfl rfl rfl Try.func50 rfl (by decide) rfl rfl rfl rfl (by decide) (fun w ht => from_con _ _ _ _ w _)) ?_
  intro bm6_ bk7_
  refine s_end ?_
  refine q_seq ?_
  refine c_block rfl ?_
  refine c_range (N := l.length - at_) (S := fun ys => ys = KeysFrom l at_) (Sp := fun pre => pre <+: KeysFrom l at_) (fun x : Int => #[Value.int .u64 x]) (gf := 65) (lb := [.pointer (some ⟨bm6_, 0, none⟩), .pointer (some ⟨bk7_, 0, none⟩)]) (ps := #[63]) [2] [0, 1, 3, 4, 5, 6, 7] (RInv o2 o3) (fun pre ce s => ce = .exit 3 ∧ ∃ p x, pre = p ++ [x] ∧ RInv o2 o3 p s ∧ (o2 < x ∨ o3 ≤ (p.length : Int))) (fun s : Option (Nat × Nat × Nat × Array Value) => match s with | none => [.b b5_ (.cells #[.bool false, .bool false, .int .u64 0, .slice none 0 0] 46 (0, 0))] | some (n, g, cap, cur) => [.b b5_ (.cells #[.bool false, .bool false, .int .u64 0, .slice (some ⟨g, 0, none⟩) n cap] 46 (0, 0)), .b g (.cells cur 41 (0, 0))]) (fun x => [(10, .int .u64 x), (63, .int .u64 x)]) none rfl rfl rfl (fun _ => rfl) (by decide) Try.func65 rfl (by decide) rfl rfl (by decide) ?_ rfl rfl ?_ ?_ ?_ ?_ ?_
  · rintro (_ | ⟨n, g, cap, cur⟩) e he <;> simp only [List.mem_cons, List.not_mem_nil, or_false] at he
    · subst he; exact ⟨_, _, _, rfl⟩
    · rcases he with rfl | rfl <;> exact ⟨_, _, _, rfl⟩
  · intro w ht
    refine from1_stops k _ (by decide) bm6_ bk7_ _ A c l o1 at_ is hp hat hlm w (ht.at_ _ _ (List.mem_of_getElem? (i := 1) rfl)) (ht.at_ _ _ (List.mem_of_getElem? (i := 0) rfl)) ?_ ?_ ((ht.facts _ (List.mem_of_getElem? (i := 7) rfl)).mono ?_)
    · exact tri_disj ht (i := 1) rfl (idx := [2]) rfl (by decide)
    · exact tri_disj ht (i := 0) rfl (idx := [2]) rfl (by decide)
    · exact fun x hx _ => List.mem_append_right _ (pick_ids (idx := [2]) rfl x hx)
  · intro lv x a W K hf hk
    refine assign_one (F1 := [(10, .int .u64 x), (63, .int .u64 x)] ++ _) (fr_params hf rfl) hk ?_
    refine r_ord (l := [0]) rfl (by kernel_rfl) (by kernel_rfl) ?_
    refine s_v rfl rfl rfl rfl (v_as rfl rfl) ?_
    refine s_end ?_
    exact q_assigned (fun _ _ h => h)
  · intro lv pre x s W hs hlen
    rcases s with _ | ⟨n, g, cap, cur⟩
    ·
      have hn : ([] : List Int).length = pre.length := by cases hs; rfl
      refine c_block rfl ?_
      refine c_seq rfl ?_
      refine c_seq rfl ?_
      refine r_ord (l := [0, 1, 2, 3, 4, 5, 6, 7, 8, 9, 10, 11]) rfl (by kernel_rfl) (by kernel_rfl) ?_
      refine s_v rfl rfl rfl rfl (v_mv rfl rfl) ?_
      refine s_v rfl rfl rfl rfl (v_fa rfl Try.underlying43 rfl SZ41 rfl) ?_
      refine s_v rfl rfl rfl rfl (v_ldr 5 rfl Try.underlying41 rfl rfl rfl rfl) ?_
      refine s_v rfl rfl rfl rfl (v_ar rfl rfl rfl rfl) ?_
      refine s_v rfl rfl rfl rfl (v_mv rfl rfl) ?_
      refine s_splitv (d := 68) (t := decide ((x : Int) > o2)) rfl (fun h8_ => ?_) (fun h8_ => ?_)
      ·
        refine s_no rfl rfl rfl rfl ?_
        refine s_no rfl rfl rfl rfl ?_
        refine s_no rfl rfl rfl rfl ?_
        refine s_no rfl rfl rfl rfl ?_
        refine s_no rfl rfl rfl rfl ?_
        refine s_no rfl rfl rfl rfl ?_
        refine s_v rfl rfl rfl rfl (v_pick rfl rfl rfl rfl) ?_
        refine s_end ?_
        refine q_seq ?_
        refine c_cond1 rfl rfl ?_
        refine c_exit (i := 3) rfl rfl ?_
        refine q_then_exit ?_
        refine q_block_on rfl ?_
        exact q_round_exit none [0] rfl rfl (by decide) ⟨rfl, pre, x, rfl, hs, .inl (of_decide_eq_true h8_)⟩
      ·
        refine s_vg rfl rfl rfl rfl (v_fa rfl Try.underlying46 rfl SZ44 rfl) ?_
        refine s_vg rfl rfl rfl rfl (v_ld 0 rfl Try.underlying44 rfl rfl rfl rfl) ?_
        refine s_vg rfl rfl rfl rfl (v_len rfl rfl rfl Try.underlying44 rfl rfl) ?_
        refine s_vg rfl rfl rfl rfl (v_fa rfl Try.underlying43 rfl SZ3 rfl) ?_
        refine s_vg rfl rfl rfl rfl (v_ldr 5 rfl Try.underlying3 rfl rfl rfl rfl) ?_
        refine s_vg rfl rfl rfl rfl (v_ar rfl rfl rfl rfl) ?_
        refine s_v rfl rfl rfl rfl (v_pick rfl rfl rfl rfl) ?_
        refine s_end ?_
        refine q_seq ?_
        refine c_cond (t := decide (((0 : Nat) : Int) ≥ o3)) rfl rfl (fun h9_ => ?_) (fun h9_ => ?_)
        ·
          refine c_exit (i := 3) rfl rfl ?_
          refine q_then_exit ?_
          refine q_block_on rfl ?_
          exact q_round_exit none [0] rfl rfl (by decide) ⟨rfl, pre, x, rfl, hs, .inr (by rw [← hn]; exact of_decide_eq_true h9_)⟩
        ·
          refine c_skip rfl ?_
          refine q_seq ?_
          refine r_ord (l := [0, 1, 2, 3, 4, 5, 6]) rfl (by kernel_rfl) (by kernel_rfl) ?_
          refine s_v rfl rfl rfl rfl (v_fa rfl Try.underlying46 rfl SZ44 rfl) ?_
          refine s_v rfl rfl rfl rfl (v_ld 0 rfl Try.underlying44 rfl rfl rfl rfl) ?_
          refine s_v rfl rfl rfl rfl (v_mv rfl rfl) ?_
          refine s_e rfl rfl (e_bslice #[.int .u64 x] (.int .u64 0) rfl rfl rfl Try.underlying44 SZ41 ZR41 (by decide) rfl (by kernel_rfl)) ?_
          intro b10_
          refine s_e rfl rfl (e_app_nil (z := (.int .u64 0)) (m := 1) (bytes := 8) (k := 1) (news := [.int .u64 x]) (i := 0) rfl rfl rfl rfl rfl rfl Try.underlying44 (by kernel_rfl) rfl (by decide) rfl rfl rfl rfl rfl (by simp [Value.oneCell']) (by decide) (by decide) (by decide)) ?_
          intro g11_ cap12_ cur13_ h14_ h15_ h16_ h17_
          refine s_v rfl rfl rfl rfl (v_fa rfl Try.underlying46 rfl SZ44 rfl) ?_
          refine s_e rfl rfl (e_st 2 rfl rfl SZ44 rfl rfl rfl rfl (blt_lt rfl)) ?_
          refine s_end ?_
          refine q_block ?_
          exact q_round (some (1, g11_, cap12_, cur13_)) [2, 0] rfl rfl (by decide) (by cases hs; exact RInv.first (Int.not_lt.1 (of_decide_eq_false h8_)) (Int.not_le.1 (of_decide_eq_false h9_)) h14_ h15_ h16_ h17_)
    ·
      obtain ⟨⟨hn, hr1_, hr2_, hr3_, hr4_⟩, _⟩ := id hs
      have hnb : n ≤ 1000000 := by omega
      refine c_block rfl ?_
      refine c_seq rfl ?_
      refine c_seq rfl ?_
      refine r_ord (l := [0, 1, 2, 3, 4, 5, 6, 7, 8, 9, 10, 11]) rfl (by kernel_rfl) (by kernel_rfl) ?_
      refine s_v rfl rfl rfl rfl (v_mv rfl rfl) ?_
      refine s_v rfl rfl rfl rfl (v_fa rfl Try.underlying43 rfl SZ41 rfl) ?_
      refine s_v rfl rfl rfl rfl (v_ldr 6 rfl Try.underlying41 rfl rfl rfl rfl) ?_
      refine s_v rfl rfl rfl rfl (v_ar rfl rfl rfl rfl) ?_
      refine s_v rfl rfl rfl rfl (v_mv rfl rfl) ?_
      refine s_splitv (d := 68) (t := decide ((x : Int) > o2)) rfl (fun h18_ => ?_) (fun h18_ => ?_)
      ·
        refine s_no rfl rfl rfl rfl ?_
        refine s_no rfl rfl rfl rfl ?_
        refine s_no rfl rfl rfl rfl ?_
        refine s_no rfl rfl rfl rfl ?_
        refine s_no rfl rfl rfl rfl ?_
        refine s_no rfl rfl rfl rfl ?_
        refine s_v rfl rfl rfl rfl (v_pick rfl rfl rfl rfl) ?_
        refine s_end ?_
        refine q_seq ?_
        refine c_cond1 rfl rfl ?_
        refine c_exit (i := 3) rfl rfl ?_
        refine q_then_exit ?_
        refine q_block_on rfl ?_
        exact q_round_exit (some (n, g, cap, cur)) [0, 1] rfl rfl (by decide) ⟨rfl, pre, x, rfl, hs, .inl (of_decide_eq_true h18_)⟩
      ·
        refine s_vg rfl rfl rfl rfl (v_fa rfl Try.underlying46 rfl SZ44 rfl) ?_
        refine s_vg rfl rfl rfl rfl (v_ld 0 rfl Try.underlying44 rfl rfl rfl rfl) ?_
        refine s_vg rfl rfl rfl rfl (v_len rfl rfl rfl Try.underlying44 rfl rfl) ?_
        refine s_vg rfl rfl rfl rfl (v_fa rfl Try.underlying43 rfl SZ3 rfl) ?_
        refine s_vg rfl rfl rfl rfl (v_ldr 6 rfl Try.underlying3 rfl rfl rfl rfl) ?_
        refine s_vg rfl rfl rfl rfl (v_ar rfl rfl rfl rfl) ?_
        refine s_v rfl rfl rfl rfl (v_pick rfl rfl rfl rfl) ?_
        refine s_end ?_
        refine q_seq ?_
        refine c_cond (t := decide (((n : Nat) : Int) ≥ o3)) rfl rfl (fun h19_ => ?_) (fun h19_ => ?_)
        ·
          refine c_exit (i := 3) rfl rfl ?_
          refine q_then_exit ?_
          refine q_block_on rfl ?_
          exact q_round_exit (some (n, g, cap, cur)) [0, 1] rfl rfl (by decide) ⟨rfl, pre, x, rfl, hs, .inr (by rw [← hn]; exact of_decide_eq_true h19_)⟩
        ·
          refine c_skip rfl ?_
          refine q_seq ?_
          refine r_ord (l := [0, 1, 2, 3, 4, 5, 6]) rfl (by kernel_rfl) (by kernel_rfl) ?_
          refine s_v rfl rfl rfl rfl (v_fa rfl Try.underlying46 rfl SZ44 rfl) ?_
          refine s_v rfl rfl rfl rfl (v_ld 0 rfl Try.underlying44 rfl rfl rfl rfl) ?_
          refine s_v rfl rfl rfl rfl (v_mv rfl rfl) ?_
          refine s_e rfl rfl (e_bslice #[.int .u64 x] (.int .u64 0) rfl rfl rfl Try.underlying44 SZ41 ZR41 (by decide) rfl (by kernel_rfl)) ?_
          intro b20_
          refine s_e rfl rfl (e_app (z := (.int .u64 0)) (m := 1) (bytes := 8) (k := 1) (news := [.int .u64 x]) (i := 0) (j := 2) rfl rfl rfl rfl rfl rfl Try.underlying44 (by kernel_rfl) rfl (by decide) rfl rfl hr1_ hr2_ hr3_ rfl rfl rfl rfl rfl (by simp [Value.oneCell']) (by omega) (by simp only [maxLen]; omega)) ?_
          intro g21_ cap22_ cur23_ h24_ h25_ h26_ h27_
          refine s_v rfl rfl rfl rfl (v_fa rfl Try.underlying46 rfl SZ44 rfl) ?_
          refine s_e rfl rfl (e_st 1 rfl rfl SZ44 rfl rfl rfl rfl (blt_lt rfl)) ?_
          refine s_end ?_
          refine q_block ?_
          exact q_round (some (n + 1, g21_, cap22_, cur23_)) [1, 2] rfl rfl (by decide) (RInv.next hs (Int.not_lt.1 (of_decide_eq_false h18_)) (Int.not_le.1 (of_decide_eq_false h19_)) h24_ h25_ h26_ h27_)
  · rintro D xs s hS hs
    obtain rfl := hr0 (fun y hy => hs.good.1 y (hS ▸ hy)) (fun i hi => hs.good.2 i (hS ▸ hi))
    rw [show xs = KeysFrom l at_ from hS] at hs
    rcases s with _ | ⟨n, g, cap, cur⟩
    ·
      have hs : KeysFrom l at_ = [] := hs
      refine q_block ?_
      refine q_block ?_
      refine q_seq ?_
      refine c_seq rfl ?_
      refine r_any [.b D (.deferred (some [])), .b b5_ (.cells #[.bool false, .bool false, .int .u64 0, .slice none 0 0] 46 (0, 0)), .b bk7_ (.cells #[.int .u64 o1] 41 (0, 0)), .b bm6_ (.cells #[.slice A l.length c] 35 (0, 0)), .b b2_ (.cells #[.int .i64 5, .int .u64 o1, .int .u64 o2, .int .i64 o3, .int .i64 o4] 43 (0, 0)), .b b1_ (.cells #[.slice A l.length c] 35 (0, 0)), .f (KC k56 A c l)] (by kernel_rfl) rfl (by kernel_rfl) (mem_pick (idx := [0, 1, 2, 3, 6, 7, 8]) rfl) ?_
      refine a_v 0 rfl (by kernel_rfl) (by kernel_rfl) (by kernel_rfl) rfl rfl rfl (v_ldA [.slice A l.length c] 5 rfl Try.underlying35 rfl SZ35 rfl rfl rfl rfl) ?_
      refine a_v 1 rfl (by kernel_rfl) (by kernel_rfl) (by kernel_rfl) rfl rfl rfl (v_ldA [.bool false, .bool false, .int .u64 0, .slice none 0 0] 1 rfl Try.underlying46 rfl SZ46 rfl rfl rfl rfl) ?_
      refine a_1 (i := 2) (by kernel_rfl) ?_
      refine i_e rfl rfl (e_stA 5 rfl rfl SZ35 rfl rfl rfl rfl rfl rfl) ?_
      refine ⟨(mem_pick (idx := [0, 1, 2, 3, 6, 7, 8]) rfl), ?_⟩
      refine a_1 (i := 3) (by kernel_rfl) ?_
      refine i_e rfl rfl (e_stA 4 rfl rfl SZ46 rfl rfl rfl rfl rfl rfl) ?_
      refine ⟨(mem_pick (idx := [0, 1, 2, 3, 6, 7, 8]) rfl), ?_⟩
      refine a_end (by kernel_rfl) ?_
      refine q_seq ?_
      refine c_ret rfl ?_
      refine q_know (KC_nil (Kd.int .u64)) ?_
      refine q_take [1, 0, 2, 3, 4, 5, 6, 7, 8, 9] rfl (by decide) ?_
      exact q_retM1 (k := 9) (vs := [.agg #[.slice A l.length c], .agg #[.bool false, .bool false, .int .u64 0, .slice none 0 0]]) (.inl rfl) rfl (.agg [.slice A l.length c] 5 rfl Try.underlying35 rfl SZ35 rfl rfl rfl (.agg [.bool false, .bool false, .int .u64 0, .slice none 0 0] 4 rfl Try.underlying46 rfl SZ46 rfl rfl rfl .nil)) [8, 0] rfl (by decide) (by have e := hX none 0; rw [hs] at e; exact e)
    ·
      obtain ⟨⟨rfl, hr1_, hr2_, hr3_, hr4_⟩, _⟩ := hs
      refine q_block ?_
      refine q_block ?_
      refine q_seq ?_
      refine c_seq rfl ?_
      refine r_any [.b D (.deferred (some [])), .b b5_ (.cells #[.bool false, .bool false, .int .u64 0, .slice (some ⟨g, 0, none⟩) ((KeysFrom l at_).length) cap] 46 (0, 0)), .b g (.cells cur 41 (0, 0)), .b bk7_ (.cells #[.int .u64 o1] 41 (0, 0)), .b bm6_ (.cells #[.slice A l.length c] 35 (0, 0)), .b b2_ (.cells #[.int .i64 5, .int .u64 o1, .int .u64 o2, .int .i64 o3, .int .i64 o4] 43 (0, 0)), .b b1_ (.cells #[.slice A l.length c] 35 (0, 0)), .f (KC k56 A c l)] (by kernel_rfl) rfl (by kernel_rfl) (mem_pick (idx := [0, 1, 2, 3, 4, 7, 8, 9]) rfl) ?_
      refine a_v 0 rfl (by kernel_rfl) (by kernel_rfl) (by kernel_rfl) rfl rfl rfl (v_ldA [.slice A l.length c] 6 rfl Try.underlying35 rfl SZ35 rfl rfl rfl rfl) ?_
      refine a_v 1 rfl (by kernel_rfl) (by kernel_rfl) (by kernel_rfl) rfl rfl rfl (v_ldA [.bool false, .bool false, .int .u64 0, .slice (some ⟨g, 0, none⟩) ((KeysFrom l at_).length) cap] 1 rfl Try.underlying46 rfl SZ46 rfl rfl rfl rfl) ?_
      refine a_1 (i := 2) (by kernel_rfl) ?_
      refine i_e rfl rfl (e_stA 6 rfl rfl SZ35 rfl rfl rfl rfl rfl rfl) ?_
      refine ⟨(mem_pick (idx := [0, 1, 2, 3, 4, 7, 8, 9]) rfl), ?_⟩
      refine a_1 (i := 3) (by kernel_rfl) ?_
      refine i_e rfl rfl (e_stA 5 rfl rfl SZ46 rfl rfl rfl rfl rfl rfl) ?_
      refine ⟨(mem_pick (idx := [0, 1, 2, 3, 4, 7, 8, 9]) rfl), ?_⟩
      refine a_end (by kernel_rfl) ?_
      refine q_seq ?_
      refine c_ret rfl ?_
      refine q_give [2, 0, 1, 3, 4, 5, 6, 7, 8, 9] rfl (by decide) (by simp [ids, Ent.id?]) (KC_own (xs := KeysFrom l at_) hr4_ hr1_ hr2_) ?_
      refine q_take [1, 0, 2, 3, 4, 5, 6, 7, 8, 9] rfl (by decide) ?_
      exact q_retM1 (k := 9) (vs := [.agg #[.slice A l.length c], .agg #[.bool false, .bool false, .int .u64 0, .slice (some ⟨g, 0, none⟩) ((KeysFrom l at_).length) cap]]) (.inl rfl) rfl (.agg [.slice A l.length c] 5 rfl Try.underlying35 rfl SZ35 rfl rfl rfl (.agg [.bool false, .bool false, .int .u64 0, .slice (some ⟨g, 0, none⟩) ((KeysFrom l at_).length) cap] 4 rfl Try.underlying46 rfl SZ46 rfl rfl rfl .nil)) [8, 0] rfl (by decide) (hX _ _)
  · rintro D ce pre s hSp ⟨rfl, p, x, rfl, hs, hx⟩
    obtain rfl := hr1 p x hSp hs.good.1 hs.good.2 hx
    rcases s with _ | ⟨n, g, cap, cur⟩
    ·
      have hs : r5 = [] := hs
      refine c_exit (i := 3) rfl rfl ?_
      refine q_block_here rfl ?_
      refine q_block ?_
      refine q_seq ?_
      refine c_seq rfl ?_
      refine r_any [.b D (.deferred (some [])), .b b5_ (.cells #[.bool false, .bool false, .int .u64 0, .slice none 0 0] 46 (0, 0)), .b bk7_ (.cells #[.int .u64 o1] 41 (0, 0)), .b bm6_ (.cells #[.slice A l.length c] 35 (0, 0)), .b b2_ (.cells #[.int .i64 5, .int .u64 o1, .int .u64 o2, .int .i64 o3, .int .i64 o4] 43 (0, 0)), .b b1_ (.cells #[.slice A l.length c] 35 (0, 0)), .f (KC k56 A c l)] (by kernel_rfl) rfl (by kernel_rfl) (mem_pick (idx := [0, 1, 2, 3, 6, 7, 8]) rfl) ?_
      refine a_v 0 rfl (by kernel_rfl) (by kernel_rfl) (by kernel_rfl) rfl rfl rfl (v_ldA [.slice A l.length c] 5 rfl Try.underlying35 rfl SZ35 rfl rfl rfl rfl) ?_
      refine a_v 1 rfl (by kernel_rfl) (by kernel_rfl) (by kernel_rfl) rfl rfl rfl (v_ldA [.bool false, .bool false, .int .u64 0, .slice none 0 0] 1 rfl Try.underlying46 rfl SZ46 rfl rfl rfl rfl) ?_
      refine a_1 (i := 2) (by kernel_rfl) ?_
      refine i_e rfl rfl (e_stA 5 rfl rfl SZ35 rfl rfl rfl rfl rfl rfl) ?_
      refine ⟨(mem_pick (idx := [0, 1, 2, 3, 6, 7, 8]) rfl), ?_⟩
      refine a_1 (i := 3) (by kernel_rfl) ?_
      refine i_e rfl rfl (e_stA 4 rfl rfl SZ46 rfl rfl rfl rfl rfl rfl) ?_
      refine ⟨(mem_pick (idx := [0, 1, 2, 3, 6, 7, 8]) rfl), ?_⟩
      refine a_end (by kernel_rfl) ?_
      refine q_seq ?_
      refine c_ret rfl ?_
      refine q_know (KC_nil (Kd.int .u64)) ?_
      refine q_take [1, 0, 2, 3, 4, 5, 6, 7, 8, 9] rfl (by decide) ?_
      exact q_retM1 (k := 9) (vs := [.agg #[.slice A l.length c], .agg #[.bool false, .bool false, .int .u64 0, .slice none 0 0]]) (.inl rfl) rfl (.agg [.slice A l.length c] 5 rfl Try.underlying35 rfl SZ35 rfl rfl rfl (.agg [.bool false, .bool false, .int .u64 0, .slice none 0 0] 4 rfl Try.underlying46 rfl SZ46 rfl rfl rfl .nil)) [8, 0] rfl (by decide) (by have e := hX none 0; rw [hs] at e; exact e)
    ·
      obtain ⟨⟨rfl, hr1_, hr2_, hr3_, hr4_⟩, _⟩ := hs
      refine c_exit (i := 3) rfl rfl ?_
      refine q_block_here rfl ?_
      refine q_block ?_
      refine q_seq ?_
      refine c_seq rfl ?_
      refine r_any [.b D (.deferred (some [])), .b b5_ (.cells #[.bool false, .bool false, .int .u64 0, .slice (some ⟨g, 0, none⟩) r5.length cap] 46 (0, 0)), .b g (.cells cur 41 (0, 0)), .b bk7_ (.cells #[.int .u64 o1] 41 (0, 0)), .b bm6_ (.cells #[.slice A l.length c] 35 (0, 0)), .b b2_ (.cells #[.int .i64 5, .int .u64 o1, .int .u64 o2, .int .i64 o3, .int .i64 o4] 43 (0, 0)), .b b1_ (.cells #[.slice A l.length c] 35 (0, 0)), .f (KC k56 A c l)] (by kernel_rfl) rfl (by kernel_rfl) (mem_pick (idx := [0, 1, 2, 3, 4, 7, 8, 9]) rfl) ?_
      refine a_v 0 rfl (by kernel_rfl) (by kernel_rfl) (by kernel_rfl) rfl rfl rfl (v_ldA [.slice A l.length c] 6 rfl Try.underlying35 rfl SZ35 rfl rfl rfl rfl) ?_
      refine a_v 1 rfl (by kernel_rfl) (by kernel_rfl) (by kernel_rfl) rfl rfl rfl (v_ldA [.bool false, .bool false, .int .u64 0, .slice (some ⟨g, 0, none⟩) r5.length cap] 1 rfl Try.underlying46 rfl SZ46 rfl rfl rfl rfl) ?_
      refine a_1 (i := 2) (by kernel_rfl) ?_
      refine i_e rfl rfl (e_stA 6 rfl rfl SZ35 rfl rfl rfl rfl rfl rfl) ?_
      refine ⟨(mem_pick (idx := [0, 1, 2, 3, 4, 7, 8, 9]) rfl), ?_⟩
      refine a_1 (i := 3) (by kernel_rfl) ?_
      refine i_e rfl rfl (e_stA 5 rfl rfl SZ46 rfl rfl rfl rfl rfl rfl) ?_
      refine ⟨(mem_pick (idx := [0, 1, 2, 3, 4, 7, 8, 9]) rfl), ?_⟩
      refine a_end (by kernel_rfl) ?_
      refine q_seq ?_
      refine c_ret rfl ?_
      refine q_give [2, 0, 1, 3, 4, 5, 6, 7, 8, 9] rfl (by decide) (by simp [ids, Ent.id?]) (KC_own (xs := r5) hr4_ hr1_ hr2_) ?_
      refine q_take [1, 0, 2, 3, 4, 5, 6, 7, 8, 9] rfl (by decide) ?_
      exact q_retM1 (k := 9) (vs := [.agg #[.slice A l.length c], .agg #[.bool false, .bool false, .int .u64 0, .slice (some ⟨g, 0, none⟩) r5.length cap]]) (.inl rfl) rfl (.agg [.slice A l.length c] 5 rfl Try.underlying35 rfl SZ35 rfl rfl rfl (.agg [.bool false, .bool false, .int .u64 0, .slice (some ⟨g, 0, none⟩) r5.length cap] 4 rfl Try.underlying46 rfl SZ46 rfl rfl rfl .nil)) [8, 0] rfl (by decide) (hX _ _)
set_option maxRecDepth 100000 in
set_option maxHeartbeats 4000000 in
theorem do_ceiling (k : Nat) (A : Option Addr) (c : Nat) (l : List S56) (o1 o2 o3 o4 : Int) (at_ : Nat) (is : Bool) (hp : seq_Map_place.f k l o1 = some ((at_ : Int), is)) (hat : at_ ≤ l.length) (hlm : l.length ≤ 1000000) (r3 : Bool) (r4 : Int) (hr0 : KeysFrom l at_ = [] → r3 = false ∧ r4 = 0) (hr1 : ∀ x, [x] <+: KeysFrom l at_ → r3 = true ∧ r4 = x) (w0 : World) (H : List Nat) : Con Try.prog 23 #[.agg #[.slice A l.length c], .agg #[.int .i64 4, .int .u64 o1, .int .u64 o2, .int .i64 o3, .int .i64 o4]] w0 H [.f (KC k56 A c l)] (fun X => ∀ A2 c2, X (.tuple #[.agg #[.slice A l.length c], .agg #[.bool false, .bool r3, .int .u64 r4, .slice A2 ([] : List Int).length c2]]) [.f (KC k56 A c l), .f (KC (Kd.int .u64) A2 c2 ([] : List Int))]) := by
  refine con_enterM (c := bodyOf Try.f23) (k := 9) Try.func23 rfl (m := 84) rfl rfl rfl ?_
  intro X hX _
  refine c_seq rfl ?_
  refine r_ord (l := [0, 1, 2, 3]) rfl (by kernel_rfl) (by kernel_rfl) ?_
  refine s_e rfl rfl (e_box rfl rfl rfl rfl) ?_
  intro b1_
  refine s_e rfl rfl (e_box rfl rfl rfl rfl) ?_
  intro b2_
  refine s_e rfl rfl (e_alloc rfl rfl rfl ZR35) ?_
  intro b3_
  refine s_e rfl rfl (e_alloc rfl rfl rfl ZR46) ?_
  intro b4_
  refine s_end ?_
  refine q_seq ?_
  refine c_seq rfl ?_
  refine r_ord (l := [0]) rfl (by kernel_rfl) (by kernel_rfl) ?_
  refine s_e rfl rfl (e_alloc rfl rfl rfl ZR46) ?_
  intro b5_
  refine s_end ?_
  refine q_seq ?_
  refine c_seq rfl ?_
  refine c_seq rfl ?_
  refine r_ord (l := [0, 1]) rfl (by kernel_rfl) (by kernel_rfl) ?_
  refine s_v rfl rfl rfl rfl (v_fa rfl Try.underlying43 rfl SZ3 rfl) ?_
  refine s_v rfl rfl rfl rfl (v_ld 3 rfl Try.underlying3 rfl rfl rfl rfl) ?_
  refine s_end ?_
  refine q_seq ?_
  refine c_block rfl ?_
  refine c_seq rfl ?_
  refine r_ord (l := [0, 1]) rfl (by kernel_rfl) (by kernel_rfl) ?_
  refine s_v rfl rfl rfl rfl (v_ar rfl rfl rfl rfl) ?_
  refine s_v rfl rfl rfl rfl (v_as rfl rfl) ?_
  refine s_end ?_
  refine q_seq ?_
  refine c_cond0 rfl rfl ?_
  refine c_seq rfl ?_
  refine r_ord (l := [0, 1]) rfl (by kernel_rfl) (by kernel_rfl) ?_
  refine s_v rfl rfl rfl rfl (v_ar rfl rfl rfl rfl) ?_
  refine s_v rfl rfl rfl rfl (v_as rfl rfl) ?_
  refine s_end ?_
  refine q_seq ?_
  refine c_cond0 rfl rfl ?_
  refine c_seq rfl ?_
  refine r_ord (l := [0, 1]) rfl (by kernel_rfl) (by kernel_rfl) ?_
  refine s_v rfl rfl rfl rfl (v_ar rfl rfl rfl rfl) ?_
  refine s_v rfl rfl rfl rfl (v_as rfl rfl) ?_
  refine s_end ?_
  refine q_seq ?_
  refine c_cond0 rfl rfl ?_
  refine c_seq rfl ?_
  refine r_ord (l := [0, 1]) rfl (by kernel_rfl) (by kernel_rfl) ?_
  refine s_v rfl rfl rfl rfl (v_ar rfl rfl rfl rfl) ?_
  refine s_v rfl rfl rfl rfl (v_as rfl rfl) ?_
  refine s_end ?_
  refine q_seq ?_
  refine c_cond1 rfl rfl ?_
  refine c_seq rfl ?_
  refine r_ord (l := [0, 1, 2, 3]) rfl (by kernel_rfl) (by kernel_rfl) ?_
  refine s_v rfl rfl rfl rfl (v_ldA [.slice A l.length c] 4 rfl Try.underlying35 rfl SZ35 rfl rfl rfl rfl) ?_
  refine s_v rfl rfl rfl rfl (v_fa rfl Try.underlying43 rfl SZ41 rfl) ?_
  refine s_v rfl rfl rfl rfl (v_ld 3 rfl Try.underlying41 rfl rfl rfl rfl) ?_
  refine s_e rfl rfl (e_call [] [0, 1, 2, 3, 4, 5] #[.agg #[.slice A l.length c], .int .u64 o1] rfl rfl rfl rfl rfl Try.func50 rfl (by decide) rfl rfl rfl rfl (by decide) (fun w ht => from_con _ _ _ _ w _)) ?_
  intro bm6_ bk7_
  refine s_end ?_
  refine q_seq ?_
  refine c_block rfl ?_
  refine c_range (N := l.length - at_) (S := fun ys => ys = KeysFrom l at_) (Sp := fun pre => pre <+: KeysFrom l at_) (fun x : Int => #[Value.int .u64 x]) (gf := 65) (lb := [.pointer (some ⟨bm6_, 0, none⟩), .pointer (some ⟨bk7_, 0, none⟩)]) (ps := #[53]) [3, 4] [0, 1, 2, 5, 6, 7] (fun pre (s : Option Int) => pre = [] ∧ s = none) (fun pre c s => c = .ret ∧ ∃ x, pre = [x] ∧ s = some x) (fun s : Option Int => match s with | none => [.b b4_ (.cells #[.bool false, .bool false, .int .u64 0, .slice none 0 0] 46 (0, 0)), .b b3_ (.cells #[.slice none 0 0] 35 (0, 0))] | some x => [.b b4_ (.cells #[.bool false, .bool true, .int .u64 x, .slice none 0 0] 46 (0, 0)), .b b3_ (.cells #[.slice A l.length c] 35 (0, 0))]) (fun x => [(9, .int .u64 x), (53, .int .u64 x)]) none rfl rfl rfl (fun _ => rfl) (by decide) Try.func65 rfl (by decide) rfl rfl (by decide) ?_ ⟨rfl, rfl⟩ rfl ?_ ?_ ?_ ?_ ?_
  · rintro (_ | x) e he <;> simp only [List.mem_cons, List.not_mem_nil, or_false] at he <;> rcases he with rfl | rfl <;> exact ⟨_, _, _, rfl⟩
  · intro w ht
    refine from1_stops k _ (by decide) bm6_ bk7_ _ A c l o1 at_ is hp hat hlm w (ht.at_ _ _ (List.mem_of_getElem? (i := 1) rfl)) (ht.at_ _ _ (List.mem_of_getElem? (i := 0) rfl)) ?_ ?_ ((ht.facts _ (List.mem_of_getElem? (i := 7) rfl)).mono ?_)
    · exact tri_disj ht (i := 1) rfl (idx := [3, 4]) rfl (by decide)
    · exact tri_disj ht (i := 0) rfl (idx := [3, 4]) rfl (by decide)
    · exact fun x hx _ => List.mem_append_right _ (pick_ids (idx := [3, 4]) rfl x hx)
  · intro lv x a W K hf hk
    refine assign_one (F1 := [(9, .int .u64 x), (53, .int .u64 x)] ++ _) (fr_params hf rfl) hk ?_
    refine r_ord (l := [0]) rfl (by kernel_rfl) (by kernel_rfl) ?_
    refine s_v rfl rfl rfl rfl (v_as rfl rfl) ?_
    refine s_end ?_
    exact q_assigned (fun _ _ h => h)
  · intro lv pre x s W hs hlen
    obtain ⟨rfl, rfl⟩ := hs
    refine c_block rfl ?_
    refine c_seq rfl ?_
    refine r_ord (l := [0, 1, 2, 3, 4]) rfl (by kernel_rfl) (by kernel_rfl) ?_
    refine s_v rfl rfl rfl rfl (v_ldAr [.slice A l.length c] 6 rfl Try.underlying35 rfl SZ35 rfl rfl rfl rfl) ?_
    refine s_v rfl rfl rfl rfl (v_mv rfl rfl) ?_
    refine s_v rfl rfl rfl rfl (v_build (places := #[(0, 1), (1, 1), (2, 1), (3, 1)]) #[.bool false, .bool true, .int .u64 x, .slice none 0 0] rfl ZR46 Try.underlying46 (by kernel_rfl) rfl rfl) ?_
    refine s_e rfl rfl (e_stA 1 rfl rfl SZ35 rfl rfl rfl rfl rfl rfl) ?_
    refine s_e rfl rfl (e_stA 0 rfl rfl SZ46 rfl rfl rfl rfl rfl rfl) ?_
    refine s_end ?_
    refine q_seq ?_
    refine c_ret rfl ?_
    refine q_block_ret ?_
    exact q_round_ret (some x) [0, 1] rfl rfl (by decide) ⟨rfl, x, rfl, rfl⟩
  · rintro D xs s hS ⟨rfl, rfl⟩
    obtain ⟨rfl, rfl⟩ := hr0 hS.symm
    refine q_block ?_
    refine q_block ?_
    refine q_seq ?_
    refine c_seq rfl ?_
    refine r_any [.b D (.deferred (some [])), .b bk7_ (.cells #[.int .u64 o1] 41 (0, 0)), .b bm6_ (.cells #[.slice A l.length c] 35 (0, 0)), .b b5_ (.cells #[.bool false, .bool false, .int .u64 0, .slice none 0 0] 46 (0, 0)), .b b2_ (.cells #[.int .i64 4, .int .u64 o1, .int .u64 o2, .int .i64 o3, .int .i64 o4] 43 (0, 0)), .b b1_ (.cells #[.slice A l.length c] 35 (0, 0)), .f (KC k56 A c l)] (by kernel_rfl) rfl (by kernel_rfl) (mem_pick (idx := [0, 3, 4, 5, 6, 7, 8]) rfl) ?_
    refine a_v 0 rfl (by kernel_rfl) (by kernel_rfl) (by kernel_rfl) rfl rfl rfl (v_ldA [.slice A l.length c] 5 rfl Try.underlying35 rfl SZ35 rfl rfl rfl rfl) ?_
    refine a_v 1 rfl (by kernel_rfl) (by kernel_rfl) (by kernel_rfl) rfl rfl rfl (v_ldA [.bool false, .bool false, .int .u64 0, .slice none 0 0] 3 rfl Try.underlying46 rfl SZ46 rfl rfl rfl rfl) ?_
    refine a_1 (i := 2) (by kernel_rfl) ?_
    refine i_e rfl rfl (e_stA 2 rfl rfl SZ35 rfl rfl rfl rfl rfl rfl) ?_
    refine ⟨(mem_pick (idx := [0, 3, 4, 5, 6, 7, 8]) rfl), ?_⟩
    refine a_1 (i := 3) (by kernel_rfl) ?_
    refine i_e rfl rfl (e_stA 1 rfl rfl SZ46 rfl rfl rfl rfl rfl rfl) ?_
    refine ⟨(mem_pick (idx := [0, 3, 4, 5, 6, 7, 8]) rfl), ?_⟩
    refine a_end (by kernel_rfl) ?_
    refine q_seq ?_
    refine c_ret rfl ?_
    refine q_know (KC_nil (Kd.int .u64)) ?_
    refine q_take [1, 0, 2, 3, 4, 5, 6, 7, 8, 9] rfl (by decide) ?_
    exact q_retM1 (k := 9) (vs := [.agg #[.slice A l.length c], .agg #[.bool false, .bool false, .int .u64 0, .slice none 0 0]]) (.inl rfl) rfl (.agg [.slice A l.length c] 2 rfl Try.underlying35 rfl SZ35 rfl rfl rfl (.agg [.bool false, .bool false, .int .u64 0, .slice none 0 0] 1 rfl Try.underlying46 rfl SZ46 rfl rfl rfl .nil)) [8, 0] rfl (by decide) (hX _ _)
  · rintro D c pre s hSp ⟨rfl, x, rfl, rfl⟩
    obtain ⟨rfl, rfl⟩ := hr1 x hSp
    refine c_ret rfl ?_
    refine q_block_ret ?_
    refine q_block_ret ?_
    refine q_then_ret ?_
    refine q_know (KC_nil (Kd.int .u64)) ?_
    refine q_take [1, 0, 2, 3, 4, 5, 6, 7, 8, 9] rfl (by decide) ?_
    exact q_retM1 (k := 9) (vs := [.agg #[.slice A l.length c], .agg #[.bool false, .bool true, .int .u64 r4, .slice none 0 0]]) (.inl rfl) rfl (.agg [.slice A l.length c] 2 rfl Try.underlying35 rfl SZ35 rfl rfl rfl (.agg [.bool false, .bool true, .int .u64 r4, .slice none 0 0] 1 rfl Try.underlying46 rfl SZ46 rfl rfl rfl .nil)) [8, 0] rfl (by decide) (hX _ _)
set_option maxRecDepth 100000 in
set_option maxHeartbeats 4000000 in
theorem do_other (k : Nat) (A : Option Addr) (c : Nat) (l : List S56) (o1 o2 o3 o4 : Int) (kd : Int) (hk1 : (kd == 1) = false) (hk2 : (kd == 2) = false) (hk3 : (kd == 3) = false) (hk4 : (kd == 4) = false) (hk5 : (kd == 5) = false) (w0 : World) (H : List Nat) : Con Try.prog 23 #[.agg #[.slice A l.length c], .agg #[.int .i64 kd, .int .u64 o1, .int .u64 o2, .int .i64 o3, .int .i64 o4]] w0 H [.f (KC k56 A c l)] (fun X => ∀ A2 c2, X (.tuple #[.agg #[.slice A l.length c], .agg #[.bool false, .bool false, .int .u64 0, .slice A2 ([] : List Int).length c2]]) [.f (KC k56 A c l), .f (KC (Kd.int .u64) A2 c2 ([] : List Int))]) := by
  refine con_enterM (c := bodyOf Try.f23) (k := 9) Try.func23 rfl (m := 84) rfl rfl rfl ?_
  intro X hX _
  refine c_seq rfl ?_
  refine r_ord (l := [0, 1, 2, 3]) rfl (by kernel_rfl) (by kernel_rfl) ?_
  refine s_e rfl rfl (e_box rfl rfl rfl rfl) ?_
  intro b1_
  refine s_e rfl rfl (e_box rfl rfl rfl rfl) ?_
  intro b2_
  refine s_e rfl rfl (e_alloc rfl rfl rfl ZR35) ?_
  intro b3_
  refine s_e rfl rfl (e_alloc rfl rfl rfl ZR46) ?_
  intro b4_
  refine s_end ?_
  refine q_seq ?_
  refine c_seq rfl ?_
  refine r_ord (l := [0]) rfl (by kernel_rfl) (by kernel_rfl) ?_
  refine s_e rfl rfl (e_alloc rfl rfl rfl ZR46) ?_
  intro b5_
  refine s_end ?_
  refine q_seq ?_
  refine c_seq rfl ?_
  refine c_seq rfl ?_
  refine r_ord (l := [0, 1]) rfl (by kernel_rfl) (by kernel_rfl) ?_
  refine s_v rfl rfl rfl rfl (v_fa rfl Try.underlying43 rfl SZ3 rfl) ?_
  refine s_v rfl rfl rfl rfl (v_ld 3 rfl Try.underlying3 rfl rfl rfl rfl) ?_
  refine s_end ?_
  refine q_seq ?_
  refine c_block rfl ?_
  refine c_seq rfl ?_
  refine r_ord (l := [0, 1]) rfl (by kernel_rfl) (by kernel_rfl) ?_
  refine s_v rfl rfl rfl rfl (v_ar rfl rfl rfl rfl) ?_
  refine s_v rfl rfl rfl rfl (v_as rfl rfl) ?_
  refine s_end ?_
  refine q_seq ?_
  refine c_cond rfl rfl (fun h => absurd (h.symm.trans hk1) (by decide)) (fun _ => ?_)
  refine c_seq rfl ?_
  refine r_ord (l := [0, 1]) rfl (by kernel_rfl) (by kernel_rfl) ?_
  refine s_v rfl rfl rfl rfl (v_ar rfl rfl rfl rfl) ?_
  refine s_v rfl rfl rfl rfl (v_as rfl rfl) ?_
  refine s_end ?_
  refine q_seq ?_
  refine c_cond rfl rfl (fun h => absurd (h.symm.trans hk2) (by decide)) (fun _ => ?_)
  refine c_seq rfl ?_
  refine r_ord (l := [0, 1]) rfl (by kernel_rfl) (by kernel_rfl) ?_
  refine s_v rfl rfl rfl rfl (v_ar rfl rfl rfl rfl) ?_
  refine s_v rfl rfl rfl rfl (v_as rfl rfl) ?_
  refine s_end ?_
  refine q_seq ?_
  refine c_cond rfl rfl (fun h => absurd (h.symm.trans hk3) (by decide)) (fun _ => ?_)
  refine c_seq rfl ?_
  refine r_ord (l := [0, 1]) rfl (by kernel_rfl) (by kernel_rfl) ?_
  refine s_v rfl rfl rfl rfl (v_ar rfl rfl rfl rfl) ?_
  refine s_v rfl rfl rfl rfl (v_as rfl rfl) ?_
  refine s_end ?_
  refine q_seq ?_
  refine c_cond rfl rfl (fun h => absurd (h.symm.trans hk4) (by decide)) (fun _ => ?_)
  refine c_seq rfl ?_
  refine r_ord (l := [0, 1]) rfl (by kernel_rfl) (by kernel_rfl) ?_
  refine s_v rfl rfl rfl rfl (v_ar rfl rfl rfl rfl) ?_
  refine s_v rfl rfl rfl rfl (v_as rfl rfl) ?_
  refine s_end ?_
  refine q_seq ?_
  refine c_cond rfl rfl (fun h => absurd (h.symm.trans hk5) (by decide)) (fun _ => ?_)
  refine c_skip rfl ?_
  refine q_block ?_
  refine q_seq ?_
  refine c_seq rfl ?_
  refine r_any [.b b5_ (.cells #[.bool false, .bool false, .int .u64 0, .slice none 0 0] 46 (0, 0)), .b b2_ (.cells #[.int .i64 kd, .int .u64 o1, .int .u64 o2, .int .i64 o3, .int .i64 o4] 43 (0, 0)), .b b1_ (.cells #[.slice A l.length c] 35 (0, 0)), .f (KC k56 A c l)] (by kernel_rfl) rfl (by kernel_rfl) (mem_pick (idx := [0, 3, 4, 5]) rfl) ?_
  refine a_v 0 rfl (by kernel_rfl) (by kernel_rfl) (by kernel_rfl) rfl rfl rfl (v_ldA [.slice A l.length c] 2 rfl Try.underlying35 rfl SZ35 rfl rfl rfl rfl) ?_
  refine a_v 1 rfl (by kernel_rfl) (by kernel_rfl) (by kernel_rfl) rfl rfl rfl (v_ldA [.bool false, .bool false, .int .u64 0, .slice none 0 0] 0 rfl Try.underlying46 rfl SZ46 rfl rfl rfl rfl) ?_
  refine a_1 (i := 2) (by kernel_rfl) ?_
  refine i_e rfl rfl (e_stA 2 rfl rfl SZ35 rfl rfl rfl rfl rfl rfl) ?_
  refine ⟨(mem_pick (idx := [0, 3, 4, 5]) rfl), ?_⟩
  refine a_1 (i := 3) (by kernel_rfl) ?_
  refine i_e rfl rfl (e_stA 1 rfl rfl SZ46 rfl rfl rfl rfl rfl rfl) ?_
  refine ⟨(mem_pick (idx := [0, 3, 4, 5]) rfl), ?_⟩
  refine a_end (by kernel_rfl) ?_
  refine q_seq ?_
  refine c_ret rfl ?_
  refine q_know (KC_nil (Kd.int .u64)) ?_
  exact q_retM (k := 9) (vs := [.agg #[.slice A l.length c], .agg #[.bool false, .bool false, .int .u64 0, .slice none 0 0]]) (.inl rfl) rfl (.agg [.slice A l.length c] 3 rfl Try.underlying35 rfl SZ35 rfl rfl rfl (.agg [.bool false, .bool false, .int .u64 0, .slice none 0 0] 2 rfl Try.underlying46 rfl SZ46 rfl rfl rfl .nil)) [6, 0] rfl (by decide) (hX _ _)
end Go.Eng
namespace Go.Eng
open Go.Proofs Go.RowKit Go.Proofs.YtiihjijmmephlaaW.PrintWords Go.Proofs.Ytiihjijmmephlaa.GHist
set_option linter.unusedVariables false
set_option linter.unusedSimpArgs false
def Srt (l : List S56) : Prop := l.Pairwise (fun a b => a.f0 < b.f0)
def old (x : S56) : S61 := ⟨x.f0, x.f1⟩
def new (x : S61) : S56 := ⟨x.f0, x.f1⟩
def lb (l : List S56) (k : Int) : Nat := (l.takeWhile (fun p => decide (p.f0 < k))).length
def isIn (l : List S56) (k : Int) : Bool := l.any (fun p => p.f0 == k)
def del (l : List S56) (k : Int) : List S56 := l.filter (fun p => !(p.f0 == k))
def ins (l : List S56) (k v : Int) : List S56 := l.filter (fun p => decide (p.f0 < k)) ++ [⟨k, v⟩] ++ l.filter (fun p => decide (k < p.f0))
def getM (l : List S56) (k : Int) : Bool × Bool × Int × List Int := match l.find? (fun p => p.f0 == k) with
  | some p => (false, true, p.f1, [])
  | none => (false, false, 0, [])
theorem w64 {i : Int} (h0 : 0 ≤ i) (h1 : i < 1000000) : wrap64 (i + 1) = i + 1 := by unfold wrap64; omega
theorem w64' {i : Int} (h0 : 0 ≤ i) (h1 : i < 10000000) : wrap64 i = i := by unfold wrap64; omega
theorem mid {a : Int} (h0 : 0 ≤ a) (h1 : a < 10000000) : wrap64 ((IntKind.u64.wrap (wrap64 a)) / 2) = a / 2 := by
  rw [w64' h0 h1]
  have : IntKind.u64.wrap a = a := by
    simp only [IntKind.wrap, IntKind.bits, IntKind.signed]
    simp
    omega
  rw [this, w64' (by omega) (by omega)]
theorem srt_cons {p : S56} {l : List S56} : Srt (p :: l) ↔ (∀ q ∈ l, p.f0 < q.f0) ∧ Srt l := List.pairwise_cons
theorem lb_lt {p : S56} {l : List S56} {k : Int} (h : p.f0 < k) : lb (p :: l) k = lb l k + 1 := by simp [lb, h]
theorem lb_ge {p : S56} {l : List S56} {k : Int} (h : ¬ p.f0 < k) : lb (p :: l) k = 0 := by simp [lb, h]
theorem lb_le (l : List S56) (k : Int) : lb l k ≤ l.length := by
  unfold lb
  exact List.IsPrefix.length_le (List.takeWhile_prefix _)
theorem lb_spec {l : List S56} (hs : Srt l) (k : Int) : ∀ i (h : i < l.length), (l[i]).f0 < k ↔ i < lb l k := by
  induction l with
  | nil => intro i h; cases h
  | cons p l ih =>
    obtain ⟨h1, h2⟩ := srt_cons.1 hs
    intro i h
    by_cases hp : p.f0 < k
    · rw [lb_lt hp]
      cases i with
      | zero => simp [hp]
      | succ i => simp only [List.getElem_cons_succ]; rw [ih h2 i (by simpa using h)]; omega
    · rw [lb_ge hp]
      cases i with
      | zero => simp [hp]
      | succ i =>
        simp only [List.getElem_cons_succ]
        have := h1 _ (List.getElem_mem (l := l) (n := i) (by simpa using h))
        constructor
        · intro hh; omega
        · intro hh; omega
theorem isIn_spec {l : List S56} (hs : Srt l) (k : Int) : isIn l k = if h : lb l k < l.length then (l[lb l k]).f0 == k else false := by
  induction l with
  | nil => rfl
  | cons p l ih =>
    obtain ⟨h1, h2⟩ := srt_cons.1 hs
    by_cases hp : p.f0 < k
    · have e : isIn (p :: l) k = isIn l k := by
        simp only [isIn, List.any_cons]
        have : (p.f0 == k) = false := by simp; omega
        rw [this, Bool.false_or]
      rw [e, ih h2]
      simp only [lb_lt hp, List.length_cons, Nat.add_lt_add_iff_right, List.getElem_cons_succ]
    · simp only [lb_ge hp, List.length_cons, Nat.zero_lt_succ, dite_true, List.getElem_cons_zero]
      simp only [isIn, List.any_cons]
      by_cases e : p.f0 = k
      · simp [e]
      · have : l.any (fun p => p.f0 == k) = false := by
          rw [List.any_eq_false]
          intro q hq
          have := h1 q hq
          simp; omega
        rw [this, Bool.or_false]
theorem to_f (a b k : Int) : seq_Pair_to.f a b k = some (if a < k then -1 else if a > k then 1 else 0) := by
  simp [seq_Pair_to.f, cmp_Compare_uint64.f, cmp_isNaN_uint64.f]
  split
  · rfl
  · split <;> rfl
theorem rd52 {l : List S56} {i : Nat} (h : i < l.length) : rd_T56 l (i : Int) = l[i] := by
  simp [rd_T56, List.getD_eq_getElem?_getD, h]
theorem place_l (l : List S56) (k : Int) (hs : Srt l) (hl : l.length ≤ 1000) : ∀ (d f lo hi : Nat), hi - lo ≤ d → d < f → lo ≤ lb l k → lb l k ≤ hi → hi ≤ l.length →
    seq_Pair_uint64.l0 f l k (l.length : Int) (lo : Int) (hi : Int) = some (((lb l k : Nat) : Int), isIn l k) := by
  intro d
  induction d with
  | zero =>
    intro f lo hi hd hf h1 h2 h3
    obtain ⟨f, rfl⟩ : ∃ m, f = m + 1 := ⟨f - 1, by omega⟩
    have e : lo = lb l k := by omega
    subst e
    simp only [seq_Pair_uint64.l0]
    rw [if_neg (by omega), isIn_spec hs]
    by_cases hlt : lb l k < l.length
    · rw [if_pos (by omega), if_pos (by omega), if_pos (by omega), to_f, rd52 hlt, dif_pos hlt]
      have := (lb_spec hs k _ hlt)
      have h4 : ¬ (l[lb l k]).f0 < k := by rw [this]; omega
      rw [if_neg h4]
      simp only [Option.bind_some]
      by_cases h5 : (l[lb l k]).f0 > k
      · rw [if_pos h5]
        have : ((l[lb l k]).f0 == k) = false := by simp; omega
        rw [this]; rfl
      · rw [if_neg h5]
        have : ((l[lb l k]).f0 == k) = true := by simp; omega
        rw [this]; rfl
    · rw [if_neg (by omega), dif_neg hlt]
  | succ d ih =>
    intro f lo hi hd hf h1 h2 h3
    by_cases hlt : lo < hi
    · obtain ⟨f, rfl⟩ : ∃ m, f = m + 1 := ⟨f - 1, by omega⟩
      simp only [seq_Pair_uint64.l0]
      have hm : wrap64 ((IntKind.u64.wrap (wrap64 ((lo : Int) + hi))) / 2) = (((lo + hi) / 2 : Nat) : Int) := by rw [mid (by omega) (by omega)]; omega
      have hb : (lo + hi) / 2 < l.length := by omega
      rw [if_pos (by omega), hm, if_pos (by omega), if_pos (by omega), to_f, rd52 hb]
      simp only [Option.bind_some]
      have hsp := lb_spec hs k _ hb
      by_cases hc : (l[(lo + hi) / 2]).f0 < k
      · rw [if_pos hc, if_pos (by decide), show ((((lo + hi) / 2 : Nat) : Int) + 1) = (((lo + hi) / 2 + 1 : Nat) : Int) by omega, w64' (by omega) (by omega)]
        exact ih f _ hi (by omega) (by omega) (by have := hsp.1 hc; omega) h2 h3
      · have hneg : ¬ ((if (l[(lo + hi) / 2]).f0 < k then (-1 : Int) else if (l[(lo + hi) / 2]).f0 > k then 1 else 0) < 0) := by rw [if_neg hc]; split <;> decide
        rw [if_neg hneg]
        exact ih f lo _ (by omega) (by omega) h1 (by have : ¬ (lo + hi) / 2 < lb l k := fun h => hc (hsp.2 h); omega) (by omega)
    · exact ih f lo hi (by omega) (by omega) h1 h2 h3
theorem place (l : List S56) (k : Int) (hs : Srt l) (hl : l.length ≤ 1000) (f : Nat) (hf : 1000 < f) : seq_Map_place.f f l k = some (((lb l k : Nat) : Int), isIn l k) := by
  have := place_l l k hs hl l.length f 0 l.length (by omega) (by omega) (by omega) (lb_le l k) (by omega)
  unfold seq_Map_place.f seq_Pair_uint64.f
  simp only [Int.natCast_zero] at this
  rw [this]; rfl
theorem getM_nth {l : List S56} (hs : Srt l) (k : Int) : getM l k = if h : lb l k < l.length then (if (l[lb l k]).f0 == k then (false, true, (l[lb l k]).f1, []) else (false, false, 0, [])) else (false, false, 0, []) := by
  induction l with
  | nil => rfl
  | cons p l ih =>
    obtain ⟨h1, h2⟩ := srt_cons.1 hs
    by_cases hp : p.f0 < k
    · have e : getM (p :: l) k = getM l k := by
        have : (p.f0 == k) = false := by simp; omega
        simp only [getM, List.find?_cons, this]
      rw [e, ih h2]
      simp only [lb_lt hp, List.length_cons, Nat.add_lt_add_iff_right, List.getElem_cons_succ]
    · simp only [lb_ge hp, List.length_cons, Nat.zero_lt_succ, dite_true, List.getElem_cons_zero]
      by_cases e : p.f0 = k
      · simp [getM, e]
      · have e' : (p.f0 == k) = false := by simpa using e
        have : l.find? (fun p => p.f0 == k) = none := by
          rw [List.find?_eq_none]
          intro q hq
          have := h1 q hq
          simp; omega
        simp [getM, List.find?_cons, e', this]
theorem get_f (l : List S56) (k : Int) (hs : Srt l) (hl : l.length ≤ 1000) (f : Nat) (hf : 1000 < f) : seq_Map_get.f f l k = some (getM l k) := by
  unfold seq_Map_get.f
  rw [place l k hs hl f hf, Option.bind_some, isIn_spec hs, getM_nth hs]
  by_cases h : lb l k < l.length
  · simp only [dif_pos h]
    by_cases e : (l[lb l k]).f0 == k
    · rw [if_pos e, if_pos (by omega), if_pos (by omega), if_pos e, rd52 h]
    · rw [if_neg e, if_neg e]
  · simp only [dif_neg h]
    rfl
theorem del_eq {l : List S56} (hs : Srt l) (k : Int) : (if isIn l k = true then l.eraseIdx (lb l k) else l) = del l k := by
  induction l with
  | nil => rfl
  | cons p l ih =>
    obtain ⟨h1, h2⟩ := srt_cons.1 hs
    by_cases hp : p.f0 < k
    · have e : (p.f0 == k) = false := by simp; omega
      have e1 : isIn (p :: l) k = isIn l k := by simp only [isIn, List.any_cons, e, Bool.false_or]
      have e2 : del (p :: l) k = p :: del l k := by simp [del, List.filter_cons, e]
      rw [e1, e2, lb_lt hp, ← ih h2]
      by_cases h : isIn l k = true
      · rw [if_pos h, if_pos h, List.eraseIdx_cons_succ]
      · rw [if_neg h, if_neg h]
    · have hall : del l k = l := by
        rw [del, List.filter_eq_self]
        intro q hq
        have := h1 q hq
        simp; omega
      have hno : isIn l k = false := by
        rw [isIn, List.any_eq_false]
        intro q hq
        have := h1 q hq
        simp; omega
      rw [lb_ge hp]
      by_cases e : p.f0 = k
      · rw [if_pos (by simp [isIn, e]), List.eraseIdx_cons_zero]
        conv => lhs; rw [← hall]
        simp [del, List.filter_cons, e]
      · have e' : (p.f0 == k) = false := by simpa using e
        have : isIn (p :: l) k = false := by simp only [isIn, List.any_cons, e', Bool.false_or]; exact hno
        rw [if_neg (by rw [this]; decide)]
        have : del (p :: l) k = p :: del l k := by simp [del, List.filter_cons, e']
        rw [this, hall]
theorem del_take {l : List S56} (hs : Srt l) (k : Int) : (del l k).take (lb l k) = l.filter (fun p => decide (p.f0 < k)) ∧ (del l k).drop (lb l k) = l.filter (fun p => decide (k < p.f0)) := by
  induction l with
  | nil => exact ⟨rfl, rfl⟩
  | cons p l ih =>
    obtain ⟨h1, h2⟩ := srt_cons.1 hs
    obtain ⟨i1, i2⟩ := ih h2
    by_cases hp : p.f0 < k
    · have e : (p.f0 == k) = false := by simp; omega
      have e2 : del (p :: l) k = p :: del l k := by simp [del, List.filter_cons, e]
      have hn : ¬ k < p.f0 := by omega
      rw [e2, lb_lt hp]
      simp only [List.take_succ_cons, List.drop_succ_cons, List.filter_cons, hp, hn, decide_true, decide_false, if_true, i1, i2]
      simp
    · rw [lb_ge hp]
      have f1 : (p :: l).filter (fun p => decide (p.f0 < k)) = [] := by
        rw [List.filter_eq_nil_iff]
        intro q hq
        rcases List.mem_cons.1 hq with rfl | hq
        · simpa using hp
        · have := h1 q hq; simp; omega
      refine ⟨by rw [f1]; rfl, ?_⟩
      rw [List.drop_zero, del]
      apply List.filter_congr
      intro q hq
      have : k ≤ q.f0 := by
        rcases List.mem_cons.1 hq with rfl | hq
        · omega
        · have := h1 q hq; omega
      by_cases e : q.f0 = k
      · simp [e]
      · have : k < q.f0 := by omega
        simp [e, this]
theorem without_f (l : List S56) (k : Int) (hs : Srt l) (hl : l.length ≤ 1000) (f : Nat) (hf : 1000 < f) : seq_Map_without.f f l k = some (del l k, ((lb l k : Nat) : Int)) := by
  unfold seq_Map_without.f
  rw [place l k hs hl f hf, Option.bind_some, if_pos (by omega), if_pos (by omega), ← del_eq hs k]
  by_cases e : isIn l k = true
  · have h := e
    rw [isIn_spec hs] at h
    have hlt : lb l k < l.length := by
      by_cases hh : lb l k < l.length
      · exact hh
      · rw [dif_neg hh] at h; cases h
    simp only [if_pos e]
    rw [if_pos (by omega), Int.toNat_natCast]
  · simp only [if_neg e]
theorem del_len (l : List S56) (k : Int) : (del l k).length ≤ l.length := List.length_filter_le _ _
theorem lb_del {l : List S56} (hs : Srt l) (k : Int) : lb l k ≤ (del l k).length := by
  induction l with
  | nil => exact Nat.le_refl _
  | cons p l ih =>
    obtain ⟨h1, h2⟩ := srt_cons.1 hs
    by_cases hp : p.f0 < k
    · have e : (p.f0 == k) = false := by simp; omega
      have e2 : del (p :: l) k = p :: del l k := by simp [del, List.filter_cons, e]
      rw [e2, lb_lt hp, List.length_cons]
      have := ih h2
      omega
    · rw [lb_ge hp]; exact Nat.zero_le _
theorem with_f (l : List S56) (k v : Int) (hs : Srt l) (hl : l.length ≤ 1000) (f : Nat) (hf : 1000 < f) : seq_Map_with.f f l k v = some (ins l k v) := by
  unfold seq_Map_with.f
  have h1 := del_len l k
  have h2 := lb_del hs k
  obtain ⟨h3, h4⟩ := del_take hs k
  rw [without_f l k hs hl f hf, Option.bind_some, if_pos (by omega), if_pos (by show ((lb l k : Nat) : Int) ≤ ((del l k).length : Int); omega), if_pos (by show (del l k).length ≤ 1000000; omega)]
  show some ((del l k).take (((lb l k : Nat) : Int)).toNat ++ [⟨k, v⟩] ++ (del l k).drop (((lb l k : Nat) : Int)).toNat) = _
  rw [Int.toNat_natCast, h3, h4]; rfl
theorem srt_filter {l : List S56} (hs : Srt l) (p : S56 → Bool) : Srt (l.filter p) := List.Pairwise.filter p hs
theorem srt_del {l : List S56} (hs : Srt l) (k : Int) : Srt (del l k) := srt_filter hs _
theorem srt_ins {l : List S56} (hs : Srt l) (k v : Int) : Srt (ins l k v) := by
  unfold ins Srt
  rw [List.append_assoc, List.pairwise_append]
  refine ⟨srt_filter hs _, ?_, ?_⟩
  · rw [List.singleton_append, List.pairwise_cons]
    refine ⟨fun q hq => ?_, srt_filter hs _⟩
    have := (List.mem_filter.1 hq).2
    simpa using this
  · intro a ha b hb
    have h1 : a.f0 < k := by simpa using (List.mem_filter.1 ha).2
    rw [List.singleton_append] at hb
    rcases List.mem_cons.1 hb with rfl | hb
    · exact h1
    · have h2 : k < b.f0 := by simpa using (List.mem_filter.1 hb).2
      omega
theorem ins_len (l : List S56) (k v : Int) : (ins l k v).length ≤ l.length + 1 := by
  have key : (l.filter (fun p => decide (p.f0 < k))).length + (l.filter (fun p => decide (k < p.f0))).length ≤ l.length := by
    induction l with
    | nil => exact Nat.le_refl _
    | cons p l ih =>
      simp only [List.filter_cons]
      by_cases h1 : p.f0 < k
      · have h2 : ¬ k < p.f0 := by omega
        simp only [h1, h2, decide_true, decide_false, if_true, List.length_cons]
        simp only [Bool.false_eq_true, if_false]
        omega
      · simp only [h1, decide_false, Bool.false_eq_true, if_false]
        split <;> simp only [List.length_cons] <;> omega
  unfold ins
  simp only [List.length_append, List.length_singleton]
  omega
end Go.Eng
namespace Go.Eng
open Go.Proofs Go.RowKit Go.Proofs.YtiihjijmmephlaaW.PrintWords Go.Proofs.Ytiihjijmmephlaa.GHist
set_option linter.unusedVariables false
set_option linter.unusedSimpArgs false
deriving instance DecidableEq for S56
deriving instance DecidableEq for S61
theorem drop_get {α : Type} (l : List α) (z : α) (i : Int) (h0 : 0 ≤ i) (h1 : i < l.length) : l.drop i.toNat = l.getD i.toNat z :: l.drop (i + 1).toNat := by
  have h : i.toNat < l.length := by omega
  rw [List.drop_eq_getElem_cons h, List.getD_eq_getElem?_getD, List.getElem?_eq_getElem h, show (i + 1).toNat = i.toNat + 1 by omega]; rfl
theorem drop_end {α : Type} (l : List α) (i : Int) (h : i = l.length) : l.drop i.toNat = [] := by
  rw [h]; simp
theorem pairs_f (l : List S56) (hl : l.length ≤ 1000) : seq_Map_Pairs.f l = some l := by
  unfold seq_Map_Pairs.f seq_Pair_30.f
  simp only [Option.bind_some, List.length_nil, List.nil_append]
  rw [if_pos (by omega)]; rfl
theorem eqk_l (l m : List Int) (hl : l.length ≤ 1000) (hm : l.length = m.length) (d : Nat) : ∀ (k : Nat) (i : Int), 0 ≤ i → i ≤ l.length → (l.length : Int) - i = d → d < k →
    slices_Equal_uint64_uint64.l0 k l m (l.length : Int) i = some (decide (l.drop i.toNat = m.drop i.toNat)) := by
  induction d with
  | zero =>
    intro k i h0 h1 hd hk
    obtain ⟨k, rfl⟩ : ∃ m, k = m + 1 := ⟨k - 1, by omega⟩
    simp only [slices_Equal_uint64_uint64.l0]; rw [if_neg (by omega), drop_end l i (by omega), drop_end m i (by omega)]; simp
  | succ d ih =>
    intro k i h0 h1 hd hk
    obtain ⟨k, rfl⟩ : ∃ m, k = m + 1 := ⟨k - 1, by omega⟩
    simp only [slices_Equal_uint64_uint64.l0]
    rw [if_pos (by omega), if_pos h0, if_pos (by omega), if_pos (by omega), w64 h0 (by omega), ih k (i + 1) (by omega) (by omega) (by omega) (by omega), drop_get l 0 i h0 (by omega), drop_get m 0 i h0 (by omega)]
    have e1 : rd l i = l.getD i.toNat 0 := rfl
    have e2 : rd m i = m.getD i.toNat 0 := rfl
    rw [e1, e2]
    generalize l.getD i.toNat 0 = x
    generalize m.getD i.toNat 0 = y
    simp only [List.cons.injEq]
    by_cases h1 : x = y <;> simp [h1]
theorem eqk_f (l m : List Int) (hl : l.length ≤ 1000) (k : Nat) (hk : 1000 < k) : slices_Equal_uint64_uint64.f k l m = some (decide (l = m)) := by
  unfold slices_Equal_uint64_uint64.f
  by_cases h : l.length = m.length
  · rw [if_pos (by omega), eqk_l l m hl h l.length k 0 (by omega) (by omega) (by omega) (by omega)]; simp
  · rw [if_neg (by omega)]
    have : l ≠ m := fun e => h (by rw [e])
    simp [this]
def sameB (a0 a1 : Bool) (a2 : Int) (a3 : List Int) (b0 b1 : Bool) (b2 : Int) (b3 : List Int) : Bool := a0 == b0 && (a1 == b1 && (decide (a2 = b2) && decide (a3 = b3)))
theorem same_f (a0 a1 : Bool) (a2 : Int) (a3 : List Int) (b0 b1 : Bool) (b2 : Int) (b3 : List Int) (hl : a3.length ≤ 1000) (k : Nat) (hk : 1000 < k) : seq_Same.f k a0 a1 a2 a3 b0 b1 b2 b3 = some (sameB a0 a1 a2 a3 b0 b1 b2 b3) := by
  unfold seq_Same.f sameB
  rw [eqk_f a3 b3 hl k hk]
  cases h1 : a0 == b0 <;> cases h2 : a1 == b1 <;> by_cases h3 : a2 = b2 <;> simp [h3]
theorem rd62 (l : List S56) (i : Int) : rd_T61 (l.map old) i = old (l.getD i.toNat z56) := by
  simp only [rd_T61, List.getD_eq_getElem?_getD, List.getElem?_map]
  cases l[i.toNat]? <;> rfl
theorem refGet_l (l : List S56) (o : Int) (hl : l.length ≤ 1000) (d : Nat) : ∀ (k : Nat) (i : Int), 0 ≤ i → i ≤ l.length → (l.length : Int) - i = d → d < k →
    stepstoneref07_get.l0 k (l.map old) o i = some (getM (l.drop i.toNat) o) := by
  induction d with
  | zero =>
    intro k i h0 h1 hd hk
    obtain ⟨k, rfl⟩ : ∃ m, k = m + 1 := ⟨k - 1, by omega⟩
    simp only [stepstoneref07_get.l0, List.length_map]; rw [if_neg (by omega), drop_end l i (by omega)]; rfl
  | succ d ih =>
    intro k i h0 h1 hd hk
    obtain ⟨k, rfl⟩ : ∃ m, k = m + 1 := ⟨k - 1, by omega⟩
    simp only [stepstoneref07_get.l0, List.length_map]
    rw [if_pos (by omega), if_pos h0, w64 h0 (by omega), ih k (i + 1) (by omega) (by omega) (by omega) (by omega), rd62, drop_get l z56 i h0 (by omega)]
    generalize l.getD i.toNat z56 = x
    by_cases h : x.f0 = o
    · simp [getM, old, h]
    · have : (x.f0 == o) = false := by simpa using h
      simp [getM, old, h, List.find?_cons, this]
theorem refGet_f (l : List S56) (o : Int) (hl : l.length ≤ 1000) (k : Nat) (hk : 1000 < k) : stepstoneref07_get.f k (l.map old) o = some (getM l o) := by
  have := refGet_l l o hl l.length k 0 (by omega) (by omega) (by omega) (by omega)
  unfold stepstoneref07_get.f
  simpa using this
theorem refWithout_l (l : List S56) (o : Int) (hl : l.length ≤ 1000) (d : Nat) : ∀ (k : Nat) (acc : List S61) (i : Int), acc.length + (l.length - i.toNat) ≤ 1000 → 0 ≤ i → i ≤ l.length → (l.length : Int) - i = d → d < k →
    stepstoneref07_Without.l0 k (l.map old) o acc i = some (acc ++ (del (l.drop i.toNat) o).map old) := by
  induction d with
  | zero =>
    intro k acc i ha h0 h1 hd hk
    obtain ⟨k, rfl⟩ : ∃ m, k = m + 1 := ⟨k - 1, by omega⟩
    simp only [stepstoneref07_Without.l0, List.length_map]; rw [if_neg (by omega), drop_end l i (by omega)]; simp [del]
  | succ d ih =>
    intro k acc i ha h0 h1 hd hk
    obtain ⟨k, rfl⟩ : ∃ m, k = m + 1 := ⟨k - 1, by omega⟩
    simp only [stepstoneref07_Without.l0, List.length_map]
    rw [if_pos (by omega), if_pos h0, w64 h0 (by omega), rd62, drop_get l z56 i h0 (by omega)]
    generalize l.getD i.toNat z56 = x
    by_cases h : x.f0 = o
    · rw [if_pos (show (old x).f0 = o from h), ih k _ (i + 1) (by omega) (by omega) (by omega) (by omega) (by omega)]
      simp [del, h]
    · have h' : (x.f0 == o) = false := by simpa using h
      rw [if_neg (show ¬ (old x).f0 = o from h), if_pos (by omega), ih k _ (i + 1) (by rw [List.length_append, List.length_singleton]; omega) (by omega) (by omega) (by omega) (by omega)]
      simp [del, List.filter_cons, h', List.append_assoc]
theorem refWithout_f (l : List S56) (o : Int) (hl : l.length ≤ 1000) (k : Nat) (hk : 1000 < k) : stepstoneref07_Without.f k (l.map old) o = some ((del l o).map old) := by
  have := refWithout_l l o hl l.length k [] 0 (by simp; omega) (by omega) (by omega) (by omega) (by omega)
  unfold stepstoneref07_Without.f
  simpa using this
def wr (k v : Int) : Bool → List S56 → List S56
  | done, [] => if done then [] else [⟨k, v⟩]
  | done, x :: r => (if k ≤ x.f0 ∧ done = false then [⟨k, v⟩] else []) ++ (if x.f0 = k then [] else [x]) ++ wr k v (done || decide (k ≤ x.f0)) r
theorem refWith_l (l : List S56) (o v : Int) (hl : l.length ≤ 1000) (d : Nat) : ∀ (k : Nat) (acc : List S61) (done : Bool) (i : Int), acc.length + 2 * (l.length - i.toNat) ≤ 4000 → 0 ≤ i → i ≤ l.length → (l.length : Int) - i = d → 2 * d < k →
    stepstoneref07_With.l0 k (l.map old) acc done i o v = some (acc ++ (wr o v done (l.drop i.toNat)).map old) := by
  induction d with
  | zero =>
    intro k acc done i ha h0 h1 hd hk
    obtain ⟨k, rfl⟩ : ∃ m, k = m + 1 := ⟨k - 1, by omega⟩
    simp only [stepstoneref07_With.l0, List.length_map]; rw [if_neg (by omega), drop_end l i (by omega)]
    cases done
    · simp only [wr, Bool.false_eq_true, if_false]; rw [if_pos (by omega)]; rfl
    · simp [wr]
  | succ d ih =>
    intro k acc done i ha h0 h1 hd hk
    obtain ⟨k, rfl⟩ : ∃ m, k = m + 2 := ⟨k - 2, by omega⟩
    simp only [stepstoneref07_With.l0, stepstoneref07_With.j1, List.length_map]
    rw [if_pos (by omega), if_pos h0, rd62, drop_get l z56 i h0 (by omega)]
    generalize l.getD i.toNat z56 = x
    simp only [if_pos h0, if_pos (show i < (l.length : Int) by omega), w64 h0 (show i < 1000000 by omega), Option.bind_some]
    have hb1 : acc.length < 8796093022208 := by omega
    have hb2 : (acc ++ [(⟨o, v⟩ : S61)]).length < 8796093022208 := by rw [List.length_append, List.length_singleton]; omega
    have ih0 := fun (a : List S61) (dn : Bool) (h : a.length + 2 * (l.length - (i + 1).toNat) ≤ 4000) => ih k a dn (i + 1) h (by omega) (by omega) (by omega) (by omega)
    simp only [if_pos hb1, if_pos hb2]
    by_cases hge : o ≤ x.f0
    · have hge' : (old x).f0 ≥ o := hge
      rw [if_pos hge']
      cases done
      · simp only [Bool.not_false, if_true]
        by_cases he : x.f0 = o
        · rw [if_pos (show (old x).f0 = o from he), ih0 _ true (by rw [List.length_append, List.length_singleton]; omega)]
          simp [wr, hge, he, old]
        · rw [if_neg (show ¬ (old x).f0 = o from he), ih0 _ true (by simp only [List.length_append, List.length_singleton]; omega)]
          simp [wr, hge, he, old]
      · simp only [Bool.not_true, Bool.false_eq_true, if_false]
        by_cases he : x.f0 = o
        · rw [if_pos (show (old x).f0 = o from he), ih0 _ true (by omega)]
          simp [wr, he]
        · rw [if_neg (show ¬ (old x).f0 = o from he), ih0 _ true (by rw [List.length_append, List.length_singleton]; omega)]
          simp [wr, he, old]
    · have hge' : ¬ (old x).f0 ≥ o := hge
      have he : ¬ x.f0 = o := by omega
      rw [if_neg hge']
      simp only [Bool.false_eq_true, if_false]
      rw [if_neg (show ¬ (old x).f0 = o from he), ih0 _ done (by rw [List.length_append, List.length_singleton]; omega)]
      simp [wr, hge, he, old]
theorem wr_done {l : List S56} (k v : Int) (h : ∀ q ∈ l, k < q.f0) : wr k v true l = l := by
  induction l with
  | nil => rfl
  | cons x r ih =>
    have h1 := h x List.mem_cons_self
    have h2 : ¬ x.f0 = k := by omega
    simp only [wr, Bool.true_eq_false, and_false, if_false, List.nil_append, Bool.true_or, if_neg h2, ih (fun q hq => h q (List.mem_cons_of_mem _ hq)), List.singleton_append]
theorem wr_ins {l : List S56} (hs : Srt l) (k v : Int) : wr k v false l = ins l k v := by
  induction l with
  | nil => rfl
  | cons x r ih =>
    obtain ⟨h1, h2⟩ := srt_cons.1 hs
    by_cases hge : k ≤ x.f0
    · have hr : wr k v true r = r := wr_done k v (fun q hq => by have := h1 q hq; omega)
      have f1 : (x :: r).filter (fun p => decide (p.f0 < k)) = [] := by
        rw [List.filter_eq_nil_iff]
        intro q hq
        rcases List.mem_cons.1 hq with rfl | hq
        · simp; omega
        · have := h1 q hq; simp; omega
      have f2 : r.filter (fun p => decide (k < p.f0)) = r := by
        rw [List.filter_eq_self]
        intro q hq
        have := h1 q hq; simp; omega
      simp only [wr, hge, and_self, if_true, decide_true, Bool.or_true, hr, ins, f1, List.nil_append]
      by_cases he : x.f0 = k
      · simp [he, f2]
      · have : k < x.f0 := by omega
        simp [he, f2, this]
    · have he : ¬ x.f0 = k := by omega
      have hlt : x.f0 < k := by omega
      have hn : ¬ k < x.f0 := by omega
      simp only [wr, hge, false_and, if_false, decide_false, Bool.or_false, ih h2, he, List.nil_append]
      simp [ins, hlt, hn]
theorem refWith_f (l : List S56) (o v : Int) (hs : Srt l) (hl : l.length ≤ 1000) (k : Nat) (hk : 2000 < k) : stepstoneref07_With.f k (l.map old) o v = some ((ins l o v).map old) := by
  have := refWith_l l o v hl l.length k [] false 0 (by simp; omega) (by omega) (by omega) (by omega) (by omega)
  unfold stepstoneref07_With.f
  rw [← wr_ins hs]
  simpa using this
end Go.Eng
namespace Go.Eng
open Go.Proofs Go.RowKit Go.Proofs.YtiihjijmmephlaaW.PrintWords Go.Proofs.Ytiihjijmmephlaa.GHist
set_option linter.unusedVariables false
set_option linter.unusedSimpArgs false
set_option maxRecDepth 100000 in
set_option maxHeartbeats 4000000 in
theorem evr_con (x : S48) (A : Option Addr) (c : Nat) (w0 : World) (H : List Nat) : Con Try.prog 24 #[.agg #[.int .i64 x.f0, .int .i64 x.f1.f0, .int .u64 x.f1.f1, .int .u64 x.f1.f2, .int .i64 x.f1.f3, .int .i64 x.f1.f4, .int .i64 x.f2, .int .i64 x.f3, .int .i64 x.f4, .bool x.f5, .bool x.f6.f0, .bool x.f6.f1, .int .u64 x.f6.f2, .slice A x.f6.f3.length c]] w0 H [.f (KC (Kd.int .u64) A c x.f6.f3)] (fun X => X (.bool ((x.f1.f0 == 5))) []) := by
  refine con_enter (c := bodyOf Try.f24) Try.func24 rfl (m := 7) rfl rfl rfl ?_
  intro X hX _
  refine c_seq rfl ?_
  refine r_ord (l := [0, 1]) rfl (by kernel_rfl) (by kernel_rfl) ?_
  refine s_e rfl rfl (e_box rfl rfl rfl rfl) ?_
  intro b1_
  refine s_v rfl rfl rfl rfl (v_as rfl rfl) ?_
  refine s_end ?_
  refine q_seq ?_
  refine c_seq rfl ?_
  refine r_ord (l := [0, 1, 2, 3, 4]) rfl (by kernel_rfl) (by kernel_rfl) ?_
  refine s_v rfl rfl rfl rfl (v_fa rfl Try.underlying53 rfl SZ43 rfl) ?_
  refine s_v rfl rfl rfl rfl (v_fa rfl Try.underlying43 rfl SZ3 rfl) ?_
  refine s_v rfl rfl rfl rfl (v_ld 0 rfl Try.underlying3 rfl rfl rfl rfl) ?_
  refine s_v rfl rfl rfl rfl (v_ar rfl rfl rfl rfl) ?_
  refine s_v rfl rfl rfl rfl (v_as rfl rfl) ?_
  refine s_end ?_
  refine q_seq ?_
  refine c_ret rfl ?_
  refine q_take [] rfl (by decide) ?_
  rw [show (x.f1.f0 == 5) = ((x.f1.f0 : Int) == 5) from by clear hX; simp_all <;> omega] at hX
  exact q_post rfl (.cons rfl (.nil)) hX
set_option maxRecDepth 100000 in
set_option maxHeartbeats 4000000 in
theorem evf_con (x : S48) (A : Option Addr) (c : Nat) (w0 : World) (H : List Nat) : Con Try.prog 25 #[.agg #[.int .i64 x.f0, .int .i64 x.f1.f0, .int .u64 x.f1.f1, .int .u64 x.f1.f2, .int .i64 x.f1.f3, .int .i64 x.f1.f4, .int .i64 x.f2, .int .i64 x.f3, .int .i64 x.f4, .bool x.f5, .bool x.f6.f0, .bool x.f6.f1, .int .u64 x.f6.f2, .slice A x.f6.f3.length c]] w0 H [.f (KC (Kd.int .u64) A c x.f6.f3)] (fun X => X (.bool ((x.f5 && x.f6.f0))) []) := by
 refine con_enter (c := bodyOf Try.f25) Try.func25 rfl (m := 10) rfl rfl rfl ?_
 intro X hX _
 refine c_seq rfl ?_
 refine r_ord (l := [0, 1]) rfl (by kernel_rfl) (by kernel_rfl) ?_
 refine s_e rfl rfl (e_box rfl rfl rfl rfl) ?_
 intro b1_
 refine s_v rfl rfl rfl rfl (v_as rfl rfl) ?_
 refine s_end ?_
 refine q_seq ?_
 refine c_seq rfl ?_
 refine r_ord (l := [0, 1, 2, 3, 4, 5, 6, 7]) rfl (by kernel_rfl) (by kernel_rfl) ?_
 refine s_v rfl rfl rfl rfl (v_fa rfl Try.underlying53 rfl SZ4 rfl) ?_
 refine s_v rfl rfl rfl rfl (v_ld 0 rfl Try.underlying4 rfl rfl rfl rfl) ?_
 refine s_v rfl rfl rfl rfl (v_mv rfl rfl) ?_
 refine s_splitv (d := 5) (t := x.f5) rfl (fun h2_ => ?_) (fun h2_ => ?_)
 refine s_vg rfl rfl rfl rfl (v_fa rfl Try.underlying53 rfl SZ46 rfl) ?_
 refine s_vg rfl rfl rfl rfl (v_fa rfl Try.underlying46 rfl SZ4 rfl) ?_
 refine s_vg rfl rfl rfl rfl (v_ld 0 rfl Try.underlying4 rfl rfl rfl rfl) ?_
 refine s_v rfl rfl rfl rfl (v_pick rfl rfl rfl rfl) ?_
 refine s_v rfl rfl rfl rfl (v_as rfl rfl) ?_
 refine s_end ?_
 refine q_seq ?_
 refine c_ret rfl ?_
 refine q_take [] rfl (by decide) ?_
 rw [show (x.f5 && x.f6.f0) = x.f6.f0 from by clear hX; simp_all <;> omega] at hX
 exact q_post rfl (.cons rfl (.nil)) hX
 refine s_no rfl rfl rfl rfl ?_
 refine s_no rfl rfl rfl rfl ?_
 refine s_no rfl rfl rfl rfl ?_
 refine s_v rfl rfl rfl rfl (v_pick rfl rfl rfl rfl) ?_
 refine s_v rfl rfl rfl rfl (v_as rfl rfl) ?_
 refine s_end ?_
 refine q_seq ?_
 refine c_ret rfl ?_
 refine q_take [] rfl (by decide) ?_
 rw [show (x.f5 && x.f6.f0) = false from by clear hX; simp_all <;> omega] at hX
 exact q_post rfl (.cons rfl (.nil)) hX
set_option maxRecDepth 100000 in
set_option maxHeartbeats 4000000 in
theorem happ_con (x : S48) (A : Option Addr) (c : Nat) (w0 : World) (H : List Nat) : Con Try.prog 29 #[.agg #[.int .i64 x.f0, .int .i64 x.f1.f0, .int .u64 x.f1.f1, .int .u64 x.f1.f2, .int .i64 x.f1.f3, .int .i64 x.f1.f4, .int .i64 x.f2, .int .i64 x.f3, .int .i64 x.f4, .bool x.f5, .bool x.f6.f0, .bool x.f6.f1, .int .u64 x.f6.f2, .slice A x.f6.f3.length c]] w0 H [.f (KC (Kd.int .u64) A c x.f6.f3)] (fun X => X (.bool (hapB x)) []) := by
 refine con_enter (c := bodyOf Try.f29) Try.func29 rfl (m := 22) rfl rfl rfl ?_
 intro X hX _
 refine c_seq rfl ?_
 refine r_ord (l := [0, 1]) rfl (by kernel_rfl) (by kernel_rfl) ?_
 refine s_e rfl rfl (e_box rfl rfl rfl rfl) ?_
 intro b1_
 refine s_v rfl rfl rfl rfl (v_as rfl rfl) ?_
 refine s_end ?_
 refine q_seq ?_
 refine c_seq rfl ?_
 refine r_ord (l := [0, 1, 2, 3, 4, 5, 6, 7, 8, 9, 10, 11, 12, 13, 14, 15, 16, 17, 18, 19]) rfl (by kernel_rfl) (by kernel_rfl) ?_
 refine s_v rfl rfl rfl rfl (v_fa rfl Try.underlying48 rfl SZ43 rfl) ?_
 refine s_v rfl rfl rfl rfl (v_fa rfl Try.underlying43 rfl SZ3 rfl) ?_
 refine s_v rfl rfl rfl rfl (v_ld 0 rfl Try.underlying3 rfl rfl rfl rfl) ?_
 refine s_v rfl rfl rfl rfl (v_ar rfl rfl rfl rfl) ?_
 refine s_v rfl rfl rfl rfl (v_mv rfl rfl) ?_
 refine s_splitv (d := 7) (t := (x.f1.f0 : Int) != 5) rfl (fun h2_ => ?_) (fun h2_ => ?_)
 refine s_vg rfl rfl rfl rfl (v_fa rfl Try.underlying48 rfl SZ3 rfl) ?_
 refine s_vg rfl rfl rfl rfl (v_ld 0 rfl Try.underlying3 rfl rfl rfl rfl) ?_
 refine s_vg rfl rfl rfl rfl (v_ar rfl rfl rfl rfl) ?_
 refine s_v rfl rfl rfl rfl (v_pick rfl rfl rfl rfl) ?_
 refine s_v rfl rfl rfl rfl (v_mv rfl rfl) ?_
 refine s_splitv (d := 12) (t := decide ((x.f3 : Int) > 0)) rfl (fun h3_ => ?_) (fun h3_ => ?_)
 refine s_vg rfl rfl rfl rfl (v_fa rfl Try.underlying48 rfl SZ4 rfl) ?_
 refine s_vg rfl rfl rfl rfl (v_ld 0 rfl Try.underlying4 rfl rfl rfl rfl) ?_
 refine s_vg rfl rfl rfl rfl (v_mv rfl rfl) ?_
 refine s_splitv (d := 15) (t := x.f5) rfl (fun h4_ => ?_) (fun h4_ => ?_)
 refine s_vg rfl rfl rfl rfl (v_fa rfl Try.underlying48 rfl SZ46 rfl) ?_
 refine s_vg rfl rfl rfl rfl (v_fa rfl Try.underlying46 rfl SZ4 rfl) ?_
 refine s_vg rfl rfl rfl rfl (v_ld 0 rfl Try.underlying4 rfl rfl rfl rfl) ?_
 refine s_vg rfl rfl rfl rfl (v_pick rfl rfl rfl rfl) ?_
 refine s_vg rfl rfl rfl rfl (v_not rfl rfl) ?_
 refine s_v rfl rfl rfl rfl (v_pick rfl rfl rfl rfl) ?_
 refine s_v rfl rfl rfl rfl (v_as rfl rfl) ?_
 refine s_end ?_
 refine q_seq ?_
 refine c_ret rfl ?_
 refine q_take [] rfl (by decide) ?_
 rw [show hapB x = (!x.f6.f0) from by clear hX; simp_all [hapB] <;> omega] at hX
 exact q_post rfl (.cons rfl (.nil)) hX
 refine s_no rfl rfl rfl rfl ?_
 refine s_no rfl rfl rfl rfl ?_
 refine s_no rfl rfl rfl rfl ?_
 refine s_vg rfl rfl rfl rfl (v_pick rfl rfl rfl rfl) ?_
 refine s_vg rfl rfl rfl rfl (v_not rfl rfl) ?_
 refine s_v rfl rfl rfl rfl (v_pick rfl rfl rfl rfl) ?_
 refine s_v rfl rfl rfl rfl (v_as rfl rfl) ?_
 refine s_end ?_
 refine q_seq ?_
 refine c_ret rfl ?_
 refine q_take [] rfl (by decide) ?_
 rw [show hapB x = true from by clear hX; simp_all [hapB] <;> omega] at hX
 exact q_post rfl (.cons rfl (.nil)) hX
 refine s_no rfl rfl rfl rfl ?_
 refine s_no rfl rfl rfl rfl ?_
 refine s_no rfl rfl rfl rfl ?_
 refine s_no rfl rfl rfl rfl ?_
 refine s_no rfl rfl rfl rfl ?_
 refine s_no rfl rfl rfl rfl ?_
 refine s_no rfl rfl rfl rfl ?_
 refine s_no rfl rfl rfl rfl ?_
 refine s_v rfl rfl rfl rfl (v_pick rfl rfl rfl rfl) ?_
 refine s_v rfl rfl rfl rfl (v_as rfl rfl) ?_
 refine s_end ?_
 refine q_seq ?_
 refine c_ret rfl ?_
 refine q_take [] rfl (by decide) ?_
 rw [show hapB x = false from by clear hX; simp_all [hapB] <;> omega] at hX
 exact q_post rfl (.cons rfl (.nil)) hX
 refine s_no rfl rfl rfl rfl ?_
 refine s_no rfl rfl rfl rfl ?_
 refine s_no rfl rfl rfl rfl ?_
 refine s_v rfl rfl rfl rfl (v_pick rfl rfl rfl rfl) ?_
 refine s_v rfl rfl rfl rfl (v_mv rfl rfl) ?_
 refine s_no rfl rfl rfl rfl ?_
 refine s_no rfl rfl rfl rfl ?_
 refine s_no rfl rfl rfl rfl ?_
 refine s_no rfl rfl rfl rfl ?_
 refine s_no rfl rfl rfl rfl ?_
 refine s_no rfl rfl rfl rfl ?_
 refine s_no rfl rfl rfl rfl ?_
 refine s_no rfl rfl rfl rfl ?_
 refine s_v rfl rfl rfl rfl (v_pick rfl rfl rfl rfl) ?_
 refine s_v rfl rfl rfl rfl (v_as rfl rfl) ?_
 refine s_end ?_
 refine q_seq ?_
 refine c_ret rfl ?_
 refine q_take [] rfl (by decide) ?_
 rw [show hapB x = false from by clear hX; simp_all [hapB] <;> omega] at hX
 exact q_post rfl (.cons rfl (.nil)) hX
def timelyB (x : S48) : Bool := if x.f1.f0 = 5 then true else if x.f5 = true ∧ x.f6.f0 = true then decide (x.f1.f0 = 2) && sameB x.f6.f0 x.f6.f1 x.f6.f2 x.f6.f3 true false 0 [] else if x.f5 = true then decide (x.f3 > 0) && (decide (x.f2 ≤ x.f3) && decide (x.f3 ≤ x.f4)) else decide (x.f3 ≤ 0) || decide (x.f2 ≤ x.f3)
set_option maxRecDepth 100000 in
set_option maxHeartbeats 4000000 in
theorem timelyC (x : S48) (A : Option Addr) (c : Nat) (hk : x.f6.f3.length ≤ 1000) (w0 : World) (H : List Nat) : Con Try.prog 32 #[.agg #[.int .i64 x.f0, .int .i64 x.f1.f0, .int .u64 x.f1.f1, .int .u64 x.f1.f2, .int .i64 x.f1.f3, .int .i64 x.f1.f4, .int .i64 x.f2, .int .i64 x.f3, .int .i64 x.f4, .bool x.f5, .bool x.f6.f0, .bool x.f6.f1, .int .u64 x.f6.f2, .slice A x.f6.f3.length c]] w0 H [.f (KC (Kd.int .u64) A c x.f6.f3)] (fun X => X (.bool (timelyB x)) []) := by
 refine con_enter (c := bodyOf Try.f32) Try.func32 rfl (m := 50) rfl rfl rfl ?_
 intro X hX _
 refine c_seq rfl ?_
 refine r_ord (l := [0, 1]) rfl (by kernel_rfl) (by kernel_rfl) ?_
 refine s_e rfl rfl (e_box rfl rfl rfl rfl) ?_
 intro b1_
 refine s_v rfl rfl rfl rfl (v_as rfl rfl) ?_
 refine s_end ?_
 refine q_seq ?_
 refine c_seq rfl ?_
 refine c_block rfl ?_
 refine c_seq rfl ?_
 refine r_ord (l := [0, 1, 2]) rfl (by kernel_rfl) (by kernel_rfl) ?_
 refine s_v rfl rfl rfl rfl (v_ldA [.int .i64 x.f0, .int .i64 x.f1.f0, .int .u64 x.f1.f1, .int .u64 x.f1.f2, .int .i64 x.f1.f3, .int .i64 x.f1.f4, .int .i64 x.f2, .int .i64 x.f3, .int .i64 x.f4, .bool x.f5, .bool x.f6.f0, .bool x.f6.f1, .int .u64 x.f6.f2, .slice A x.f6.f3.length c] 0 rfl Try.underlying53 rfl SZ53 rfl rfl rfl rfl) ?_
 refine s_e rfl rfl (e_callF [1] #[.agg #[.int .i64 x.f0, .int .i64 x.f1.f0, .int .u64 x.f1.f1, .int .u64 x.f1.f2, .int .i64 x.f1.f3, .int .i64 x.f1.f4, .int .i64 x.f2, .int .i64 x.f3, .int .i64 x.f4, .bool x.f5, .bool x.f6.f0, .bool x.f6.f1, .int .u64 x.f6.f2, .slice A x.f6.f3.length c]] rfl rfl rfl rfl rfl Try.func24 rfl (by decide) rfl rfl rfl rfl (fun w ht => evr_con x A c w _)) ?_
 refine s_v rfl rfl rfl rfl (v_as rfl rfl) ?_
 refine s_end ?_
 refine q_seq ?_
 refine c_cond (t := (x.f1.f0 == 5)) rfl rfl (fun h2_ => ?_) (fun h2_ => ?_)
 refine c_seq rfl ?_
 refine r_ord (l := [0]) rfl (by kernel_rfl) (by kernel_rfl) ?_
 refine s_v rfl rfl rfl rfl (v_as rfl rfl) ?_
 refine s_end ?_
 refine q_seq ?_
 refine c_ret rfl ?_
 refine q_block_ret ?_
 refine q_then_ret ?_
 refine q_take [] rfl (by decide) ?_
 rw [show timelyB x = true from by clear hX; simp_all [timelyB] <;> omega] at hX
 exact q_post rfl (.cons rfl (.nil)) hX
 refine c_seq rfl ?_
 refine r_ord (l := [0, 1, 2]) rfl (by kernel_rfl) (by kernel_rfl) ?_
 refine s_v rfl rfl rfl rfl (v_ldA [.int .i64 x.f0, .int .i64 x.f1.f0, .int .u64 x.f1.f1, .int .u64 x.f1.f2, .int .i64 x.f1.f3, .int .i64 x.f1.f4, .int .i64 x.f2, .int .i64 x.f3, .int .i64 x.f4, .bool x.f5, .bool x.f6.f0, .bool x.f6.f1, .int .u64 x.f6.f2, .slice A x.f6.f3.length c] 0 rfl Try.underlying53 rfl SZ53 rfl rfl rfl rfl) ?_
 refine s_e rfl rfl (e_callF [1] #[.agg #[.int .i64 x.f0, .int .i64 x.f1.f0, .int .u64 x.f1.f1, .int .u64 x.f1.f2, .int .i64 x.f1.f3, .int .i64 x.f1.f4, .int .i64 x.f2, .int .i64 x.f3, .int .i64 x.f4, .bool x.f5, .bool x.f6.f0, .bool x.f6.f1, .int .u64 x.f6.f2, .slice A x.f6.f3.length c]] rfl rfl rfl rfl rfl Try.func25 rfl (by decide) rfl rfl rfl rfl (fun w ht => evf_con x A c w _)) ?_
 refine s_v rfl rfl rfl rfl (v_as rfl rfl) ?_
 refine s_end ?_
 refine q_seq ?_
 refine c_cond (t := (x.f5 && x.f6.f0)) rfl rfl (fun h3_ => ?_) (fun h3_ => ?_)
 refine c_seq rfl ?_
 refine r_ord (l := [0, 1, 2, 3, 4, 5, 6, 7, 8, 9, 10]) rfl (by kernel_rfl) (by kernel_rfl) ?_
 refine s_v rfl rfl rfl rfl (v_fa rfl Try.underlying53 rfl SZ43 rfl) ?_
 refine s_v rfl rfl rfl rfl (v_fa rfl Try.underlying43 rfl SZ3 rfl) ?_
 refine s_v rfl rfl rfl rfl (v_ld 0 rfl Try.underlying3 rfl rfl rfl rfl) ?_
 refine s_v rfl rfl rfl rfl (v_ar rfl rfl rfl rfl) ?_
 refine s_v rfl rfl rfl rfl (v_mv rfl rfl) ?_
 refine s_splitv (d := 13) (t := (x.f1.f0 : Int) == 2) rfl (fun h4_ => ?_) (fun h4_ => ?_)
 refine s_vg rfl rfl rfl rfl (v_fa rfl Try.underlying53 rfl SZ46 rfl) ?_
 refine s_vg rfl rfl rfl rfl (v_ldA [.bool x.f6.f0, .bool x.f6.f1, .int .u64 x.f6.f2, .slice A x.f6.f3.length c] 0 rfl Try.underlying46 rfl SZ46 rfl rfl rfl rfl) ?_
 refine s_vg rfl rfl rfl rfl (v_build (places := #[(0, 1), (1, 1), (2, 1), (3, 1)]) #[.bool true, .bool false, .int .u64 0, .slice none 0 0] rfl ZR46 Try.underlying46 (by kernel_rfl) rfl rfl) ?_
 refine s_knowT (KC_nil (Kd.int .u64)) ?_
 refine s_eg rfl rfl (e_callK (fun z : Unit => .bool (sameB x.f6.f0 x.f6.f1 x.f6.f2 x.f6.f3 true false 0 ([] : List Int))) (fun z => []) #[.agg #[.bool x.f6.f0, .bool x.f6.f1, .int .u64 x.f6.f2, .slice A x.f6.f3.length c], .agg #[.bool true, .bool false, .int .u64 0, .slice none (([] : List Int).length) 0]] rfl rfl rfl rfl rfl Try.func33 rfl (by decide) rfl rfl (fun w ht => seq_Same.con 5000 _ _ _ _ _ _ _ _ _ _ _ _ _ (same_f x.f6.f0 x.f6.f1 x.f6.f2 x.f6.f3 true false 0 ([] : List Int) hk 5000 (by omega)) w (Tri.fact ht 2 rfl) (Tri.fact ht 0 rfl))) ?_
 intro z5_
 refine s_v rfl rfl rfl rfl (v_pick rfl rfl rfl rfl) ?_
 refine s_v rfl rfl rfl rfl (v_as rfl rfl) ?_
 refine s_end ?_
 refine q_seq ?_
 refine c_ret rfl ?_
 refine q_block_ret ?_
 refine q_then_ret ?_
 refine q_take [] rfl (by decide) ?_
 rw [show timelyB x = (sameB x.f6.f0 x.f6.f1 x.f6.f2 x.f6.f3 true false 0 ([] : List Int)) from by clear hX; simp_all [timelyB] <;> omega] at hX
 exact q_post rfl (.cons rfl (.nil)) hX
 refine s_no rfl rfl rfl rfl ?_
 refine s_no rfl rfl rfl rfl ?_
 refine s_no rfl rfl rfl rfl ?_
 refine s_no rfl rfl rfl rfl ?_
 refine s_v rfl rfl rfl rfl (v_pick rfl rfl rfl rfl) ?_
 refine s_v rfl rfl rfl rfl (v_as rfl rfl) ?_
 refine s_end ?_
 refine q_seq ?_
 refine c_ret rfl ?_
 refine q_block_ret ?_
 refine q_then_ret ?_
 refine q_take [] rfl (by decide) ?_
 rw [show timelyB x = false from by clear hX; simp_all [timelyB] <;> omega] at hX
 exact q_post rfl (.cons rfl (.nil)) hX
 refine c_seq rfl ?_
 refine r_ord (l := [0, 1, 2, 3]) rfl (by kernel_rfl) (by kernel_rfl) ?_
 refine s_v rfl rfl rfl rfl (v_fa rfl Try.underlying53 rfl SZ4 rfl) ?_
 refine s_v rfl rfl rfl rfl (v_ld 0 rfl Try.underlying4 rfl rfl rfl rfl) ?_
 refine s_v rfl rfl rfl rfl (v_not rfl rfl) ?_
 refine s_v rfl rfl rfl rfl (v_as rfl rfl) ?_
 refine s_end ?_
 refine q_seq ?_
 refine c_cond (t := !x.f5) rfl rfl (fun h6_ => ?_) (fun h6_ => ?_)
 refine c_seq rfl ?_
 refine r_ord (l := [0, 1, 2, 3, 4, 5, 6, 7, 8, 9, 10]) rfl (by kernel_rfl) (by kernel_rfl) ?_
 refine s_v rfl rfl rfl rfl (v_fa rfl Try.underlying53 rfl SZ3 rfl) ?_
 refine s_v rfl rfl rfl rfl (v_ld 0 rfl Try.underlying3 rfl rfl rfl rfl) ?_
 refine s_v rfl rfl rfl rfl (v_ar rfl rfl rfl rfl) ?_
 refine s_v rfl rfl rfl rfl (v_mv rfl rfl) ?_
 refine s_splitv (d := 26) (t := decide ((x.f3 : Int) ≤ 0)) rfl (fun h7_ => ?_) (fun h7_ => ?_)
 refine s_no rfl rfl rfl rfl ?_
 refine s_no rfl rfl rfl rfl ?_
 refine s_no rfl rfl rfl rfl ?_
 refine s_no rfl rfl rfl rfl ?_
 refine s_no rfl rfl rfl rfl ?_
 refine s_v rfl rfl rfl rfl (v_pick rfl rfl rfl rfl) ?_
 refine s_v rfl rfl rfl rfl (v_as rfl rfl) ?_
 refine s_end ?_
 refine q_seq ?_
 refine c_ret rfl ?_
 refine q_block_ret ?_
 refine q_then_ret ?_
 refine q_take [] rfl (by decide) ?_
 rw [show timelyB x = true from by clear hX; simp_all [timelyB] <;> omega] at hX
 exact q_post rfl (.cons rfl (.nil)) hX
 refine s_vg rfl rfl rfl rfl (v_fa rfl Try.underlying53 rfl SZ3 rfl) ?_
 refine s_vg rfl rfl rfl rfl (v_ld 0 rfl Try.underlying3 rfl rfl rfl rfl) ?_
 refine s_vg rfl rfl rfl rfl (v_fa rfl Try.underlying53 rfl SZ3 rfl) ?_
 refine s_vg rfl rfl rfl rfl (v_ld 0 rfl Try.underlying3 rfl rfl rfl rfl) ?_
 refine s_vg rfl rfl rfl rfl (v_ar rfl rfl rfl rfl) ?_
 refine s_v rfl rfl rfl rfl (v_pick rfl rfl rfl rfl) ?_
 refine s_v rfl rfl rfl rfl (v_as rfl rfl) ?_
 refine s_end ?_
 refine q_seq ?_
 refine c_ret rfl ?_
 refine q_block_ret ?_
 refine q_then_ret ?_
 refine q_take [] rfl (by decide) ?_
 rw [show timelyB x = (decide ((x.f2 : Int) ≤ x.f3)) from by clear hX; simp_all [timelyB] <;> omega] at hX
 exact q_post rfl (.cons rfl (.nil)) hX
 refine c_skip rfl ?_
 refine q_block ?_
 refine q_seq ?_
 refine c_seq rfl ?_
 refine r_ord (l := [0, 1, 2, 3, 4, 5, 6, 7, 8, 9, 10, 11, 12, 13, 14, 15, 16, 17]) rfl (by kernel_rfl) (by kernel_rfl) ?_
 refine s_v rfl rfl rfl rfl (v_fa rfl Try.underlying53 rfl SZ3 rfl) ?_
 refine s_v rfl rfl rfl rfl (v_ld 0 rfl Try.underlying3 rfl rfl rfl rfl) ?_
 refine s_v rfl rfl rfl rfl (v_ar rfl rfl rfl rfl) ?_
 refine s_v rfl rfl rfl rfl (v_mv rfl rfl) ?_
 refine s_splitv (d := 36) (t := decide ((x.f3 : Int) > 0)) rfl (fun h8_ => ?_) (fun h8_ => ?_)
 refine s_vg rfl rfl rfl rfl (v_fa rfl Try.underlying53 rfl SZ3 rfl) ?_
 refine s_vg rfl rfl rfl rfl (v_ld 0 rfl Try.underlying3 rfl rfl rfl rfl) ?_
 refine s_vg rfl rfl rfl rfl (v_fa rfl Try.underlying53 rfl SZ3 rfl) ?_
 refine s_vg rfl rfl rfl rfl (v_ld 0 rfl Try.underlying3 rfl rfl rfl rfl) ?_
 refine s_vg rfl rfl rfl rfl (v_ar rfl rfl rfl rfl) ?_
 refine s_v rfl rfl rfl rfl (v_pick rfl rfl rfl rfl) ?_
 refine s_v rfl rfl rfl rfl (v_mv rfl rfl) ?_
 refine s_splitv (d := 43) (t := decide ((x.f2 : Int) ≤ x.f3)) rfl (fun h9_ => ?_) (fun h9_ => ?_)
 refine s_vg rfl rfl rfl rfl (v_fa rfl Try.underlying53 rfl SZ3 rfl) ?_
 refine s_vg rfl rfl rfl rfl (v_ld 0 rfl Try.underlying3 rfl rfl rfl rfl) ?_
 refine s_vg rfl rfl rfl rfl (v_fa rfl Try.underlying53 rfl SZ3 rfl) ?_
 refine s_vg rfl rfl rfl rfl (v_ld 0 rfl Try.underlying3 rfl rfl rfl rfl) ?_
 refine s_vg rfl rfl rfl rfl (v_ar rfl rfl rfl rfl) ?_
 refine s_v rfl rfl rfl rfl (v_pick rfl rfl rfl rfl) ?_
 refine s_v rfl rfl rfl rfl (v_as rfl rfl) ?_
 refine s_end ?_
 refine q_seq ?_
 refine c_ret rfl ?_
 refine q_take [] rfl (by decide) ?_
 rw [show timelyB x = (decide ((x.f3 : Int) ≤ x.f4)) from by clear hX; simp_all [timelyB] <;> omega] at hX
 exact q_post rfl (.cons rfl (.nil)) hX
 refine s_no rfl rfl rfl rfl ?_
 refine s_no rfl rfl rfl rfl ?_
 refine s_no rfl rfl rfl rfl ?_
 refine s_no rfl rfl rfl rfl ?_
 refine s_no rfl rfl rfl rfl ?_
 refine s_v rfl rfl rfl rfl (v_pick rfl rfl rfl rfl) ?_
 refine s_v rfl rfl rfl rfl (v_as rfl rfl) ?_
 refine s_end ?_
 refine q_seq ?_
 refine c_ret rfl ?_
 refine q_take [] rfl (by decide) ?_
 rw [show timelyB x = false from by clear hX; simp_all [timelyB] <;> omega] at hX
 exact q_post rfl (.cons rfl (.nil)) hX
 refine s_no rfl rfl rfl rfl ?_
 refine s_no rfl rfl rfl rfl ?_
 refine s_no rfl rfl rfl rfl ?_
 refine s_no rfl rfl rfl rfl ?_
 refine s_no rfl rfl rfl rfl ?_
 refine s_v rfl rfl rfl rfl (v_pick rfl rfl rfl rfl) ?_
 refine s_v rfl rfl rfl rfl (v_mv rfl rfl) ?_
 refine s_no rfl rfl rfl rfl ?_
 refine s_no rfl rfl rfl rfl ?_
 refine s_no rfl rfl rfl rfl ?_
 refine s_no rfl rfl rfl rfl ?_
 refine s_no rfl rfl rfl rfl ?_
 refine s_v rfl rfl rfl rfl (v_pick rfl rfl rfl rfl) ?_
 refine s_v rfl rfl rfl rfl (v_as rfl rfl) ?_
 refine s_end ?_
 refine q_seq ?_
 refine c_ret rfl ?_
 refine q_take [] rfl (by decide) ?_
 rw [show timelyB x = false from by clear hX; simp_all [timelyB] <;> omega] at hX
 exact q_post rfl (.cons rfl (.nil)) hX
def okKey (x : S48) (i : Nat) : Bool := !(decide (rd x.f6.f3 (i : Int) < x.f1.f1)) && (!(decide (rd x.f6.f3 (i : Int) > x.f1.f2)) && !(decide ((i : Int) > 0) && decide (rd x.f6.f3 ((i : Int) - 1) ≥ rd x.f6.f3 (i : Int))))
def risingB (x : S48) : Bool := (List.range x.f6.f3.length).all (okKey x) && (decide ((x.f6.f3.length : Int) ≤ mx 0 x.f1.f3) && decide (x.f2 ≤ x.f4))
theorem range_next {n i : Nat} {p : Nat → Bool} (ha : (List.range i).all p = true) (ht : p i = true) : (List.range (i + 1)).all p = true := by
  rw [List.range_succ, List.all_append, ha]; simp [ht]
theorem range_bad {n i : Nat} {p : Nat → Bool} (h : i < n) (ht : p i = false) : (List.range n).all p = false := by
  rw [List.all_eq_false]; exact ⟨i, List.mem_range.2 h, by simp [ht]⟩
set_option maxRecDepth 100000 in
set_option maxHeartbeats 4000000 in
theorem risingC (x : S48) (A : Option Addr) (c : Nat) (hk : x.f6.f3.length ≤ 1000) (w0 : World) (H : List Nat) : Con Try.prog 42 #[.agg #[.int .i64 x.f0, .int .i64 x.f1.f0, .int .u64 x.f1.f1, .int .u64 x.f1.f2, .int .i64 x.f1.f3, .int .i64 x.f1.f4, .int .i64 x.f2, .int .i64 x.f3, .int .i64 x.f4, .bool x.f5, .bool x.f6.f0, .bool x.f6.f1, .int .u64 x.f6.f2, .slice A x.f6.f3.length c]] w0 H [.f (KC (Kd.int .u64) A c x.f6.f3)] (fun X => X (.bool (risingB x)) []) := by
 refine con_enter (c := bodyOf Try.f42) Try.func42 rfl (m := 56) rfl rfl rfl ?_
 intro X hX _
 refine c_seq rfl ?_
 refine r_ord (l := [0, 1]) rfl (by kernel_rfl) (by kernel_rfl) ?_
 refine s_e rfl rfl (e_box rfl rfl rfl rfl) ?_
 intro b1_
 refine s_v rfl rfl rfl rfl (v_as rfl rfl) ?_
 refine s_end ?_
 refine q_seq ?_
 refine c_seq rfl ?_
 refine r_ord (l := [0, 1, 2, 3]) rfl (by kernel_rfl) (by kernel_rfl) ?_
 refine s_v rfl rfl rfl rfl (v_fa rfl Try.underlying53 rfl SZ46 rfl) ?_
 refine s_v rfl rfl rfl rfl (v_fa rfl Try.underlying46 rfl SZ44 rfl) ?_
 refine s_v rfl rfl rfl rfl (v_ld 0 rfl Try.underlying44 rfl rfl rfl rfl) ?_
 refine s_v rfl rfl rfl rfl (v_as rfl rfl) ?_
 refine s_end ?_
 refine q_seq ?_
 refine c_seq rfl ?_
 refine c_seq rfl ?_
 refine r_ord (l := [0, 1, 2]) rfl (by kernel_rfl) (by kernel_rfl) ?_
 refine s_v rfl rfl rfl rfl (v_mv rfl rfl) ?_
 refine s_v rfl rfl rfl rfl (v_len rfl rfl rfl Try.underlying44 rfl rfl) ?_
 refine s_v rfl rfl rfl rfl (v_mv rfl rfl) ?_
 refine s_end ?_
 refine q_seq ?_
 refine c_block rfl ?_
 refine c_loop (σ := Nat) (fun i => i ≤ x.f6.f3.length ∧ (List.range i).all (okKey x) = true) (fun i => x.f6.f3.length - i) (fun i => [(1, .pointer (some ⟨b1_, 0, none⟩)), (3, .slice A x.f6.f3.length c), (9, .slice A x.f6.f3.length c), (10, .int .i64 (x.f6.f3.length : Nat)), (11, .int .i64 (i : Int))]) (fun i => [.b b1_ (.cells #[.int .i64 x.f0, .int .i64 x.f1.f0, .int .u64 x.f1.f1, .int .u64 x.f1.f2, .int .i64 x.f1.f3, .int .i64 x.f1.f4, .int .i64 x.f2, .int .i64 x.f3, .int .i64 x.f4, .bool x.f5, .bool x.f6.f0, .bool x.f6.f1, .int .u64 x.f6.f2, .slice A x.f6.f3.length c] 53 (0, 0)), .f (KC (Kd.int .u64) A c x.f6.f3)]) 0 [0, 1] rfl ⟨Nat.zero_le _, rfl⟩ (subF_spec ⟨rfl, rfl, rfl, rfl, rfl, trivial⟩) rfl (by decide) ?_
 rintro i hs
 have hi_ : i ≤ x.f6.f3.length := hs.1
 refine c_seq rfl ?_
 refine r_ord (l := [0]) rfl (by kernel_rfl) (by kernel_rfl) ?_
 refine s_v rfl rfl rfl rfl (v_ar rfl rfl rfl rfl) ?_
 refine s_end ?_
 refine q_seq ?_
 refine c_seq rfl ?_
 refine c_cond (t := decide (((i : Int) : Int) < (x.f6.f3.length : Nat))) rfl rfl (fun h2_ => ?_) (fun h2_ => ?_)
 have hil : i < x.f6.f3.length := by simpa using h2_
 refine c_skip rfl ?_
 refine q_seq ?_
 refine c_seq rfl ?_
 refine c_block rfl ?_
 refine c_seq rfl ?_
 refine r_ord (l := [0, 1, 2, 3, 4]) rfl (by kernel_rfl) (by kernel_rfl) ?_
 refine s_v rfl rfl rfl rfl (v_mv rfl rfl) ?_
 refine s_v rfl rfl rfl rfl (v_iaK (i := 1) rfl Try.underlying44 SZ41 rfl rfl rfl rfl (by omega) (by omega)) ?_
 refine s_v rfl rfl rfl rfl (v_ldK (v := .int .u64 (rd x.f6.f3 (i : Int))) 0 1 rfl Try.underlying41 rfl rfl rfl rfl (by omega) (by omega) (fun w K h => h)) ?_
 refine s_v rfl rfl rfl rfl (v_as rfl rfl) ?_
 refine s_v rfl rfl rfl rfl (v_as rfl rfl) ?_
 refine s_end ?_
 refine q_seq ?_
 refine c_seq rfl ?_
 refine r_ord (l := [0, 1, 2, 3, 4, 5, 6, 7, 8, 9, 10, 11, 12, 13, 14, 15, 16, 17, 18, 19, 20, 21, 22, 23, 24]) rfl (by kernel_rfl) (by kernel_rfl) ?_
 refine s_v rfl rfl rfl rfl (v_mv rfl rfl) ?_
 refine s_v rfl rfl rfl rfl (v_fa rfl Try.underlying53 rfl SZ43 rfl) ?_
 refine s_v rfl rfl rfl rfl (v_fa rfl Try.underlying43 rfl SZ41 rfl) ?_
 refine s_v rfl rfl rfl rfl (v_ld 0 rfl Try.underlying41 rfl rfl rfl rfl) ?_
 refine s_v rfl rfl rfl rfl (v_ar rfl rfl rfl rfl) ?_
 refine s_v rfl rfl rfl rfl (v_mv rfl rfl) ?_
 refine s_splitv (d := 21) (t := decide ((rd x.f6.f3 (i : Int) : Int) < x.f1.f1)) rfl (fun h3_ => ?_) (fun h3_ => ?_)
 have h3_f : decide (rd x.f6.f3 (i : Int) < x.f1.f1) = true := h3_
 refine s_no rfl rfl rfl rfl ?_
 refine s_no rfl rfl rfl rfl ?_
 refine s_no rfl rfl rfl rfl ?_
 refine s_no rfl rfl rfl rfl ?_
 refine s_no rfl rfl rfl rfl ?_
 refine s_v rfl rfl rfl rfl (v_pick rfl rfl rfl rfl) ?_
 refine s_v rfl rfl rfl rfl (v_mv rfl rfl) ?_
 refine s_no rfl rfl rfl rfl ?_
 refine s_no rfl rfl rfl rfl ?_
 refine s_no rfl rfl rfl rfl ?_
 refine s_no rfl rfl rfl rfl ?_
 refine s_no rfl rfl rfl rfl ?_
 refine s_no rfl rfl rfl rfl ?_
 refine s_no rfl rfl rfl rfl ?_
 refine s_no rfl rfl rfl rfl ?_
 refine s_no rfl rfl rfl rfl ?_
 refine s_no rfl rfl rfl rfl ?_
 refine s_no rfl rfl rfl rfl ?_
 refine s_v rfl rfl rfl rfl (v_pick rfl rfl rfl rfl) ?_
 refine s_end ?_
 refine q_seq ?_
 refine c_cond1 rfl rfl ?_
 refine c_seq rfl ?_
 refine r_ord (l := [0]) rfl (by kernel_rfl) (by kernel_rfl) ?_
 refine s_v rfl rfl rfl rfl (v_as rfl rfl) ?_
 refine s_end ?_
 refine q_seq ?_
 refine c_ret rfl ?_
 refine q_block_ret ?_
 refine q_then_ret ?_
 refine q_then_ret ?_
 refine q_block_ret ?_
 refine q_then_ret ?_
 refine q_take [] rfl (by decide) ?_
 rw [show risingB x = false from by unfold risingB; rw [range_bad hil (show okKey x i = false by unfold okKey; rw [h3_f]; rfl)]; rfl] at hX
 exact q_post rfl (.cons rfl (.nil)) hX
 have h3_f : decide (rd x.f6.f3 (i : Int) < x.f1.f1) = false := h3_
 refine s_vg rfl rfl rfl rfl (v_mv rfl rfl) ?_
 refine s_vg rfl rfl rfl rfl (v_fa rfl Try.underlying53 rfl SZ43 rfl) ?_
 refine s_vg rfl rfl rfl rfl (v_fa rfl Try.underlying43 rfl SZ41 rfl) ?_
 refine s_vg rfl rfl rfl rfl (v_ld 0 rfl Try.underlying41 rfl rfl rfl rfl) ?_
 refine s_vg rfl rfl rfl rfl (v_ar rfl rfl rfl rfl) ?_
 refine s_v rfl rfl rfl rfl (v_pick rfl rfl rfl rfl) ?_
 refine s_v rfl rfl rfl rfl (v_mv rfl rfl) ?_
 refine s_splitv (d := 28) (t := decide ((rd x.f6.f3 (i : Int) : Int) > x.f1.f2)) rfl (fun h4_ => ?_) (fun h4_ => ?_)
 have h4_f : decide (rd x.f6.f3 (i : Int) > x.f1.f2) = true := h4_
 refine s_no rfl rfl rfl rfl ?_
 refine s_no rfl rfl rfl rfl ?_
 refine s_no rfl rfl rfl rfl ?_
 refine s_no rfl rfl rfl rfl ?_
 refine s_no rfl rfl rfl rfl ?_
 refine s_no rfl rfl rfl rfl ?_
 refine s_no rfl rfl rfl rfl ?_
 refine s_no rfl rfl rfl rfl ?_
 refine s_no rfl rfl rfl rfl ?_
 refine s_no rfl rfl rfl rfl ?_
 refine s_no rfl rfl rfl rfl ?_
 refine s_v rfl rfl rfl rfl (v_pick rfl rfl rfl rfl) ?_
 refine s_end ?_
 refine q_seq ?_
 refine c_cond1 rfl rfl ?_
 refine c_seq rfl ?_
 refine r_ord (l := [0]) rfl (by kernel_rfl) (by kernel_rfl) ?_
 refine s_v rfl rfl rfl rfl (v_as rfl rfl) ?_
 refine s_end ?_
 refine q_seq ?_
 refine c_ret rfl ?_
 refine q_block_ret ?_
 refine q_then_ret ?_
 refine q_then_ret ?_
 refine q_block_ret ?_
 refine q_then_ret ?_
 refine q_take [] rfl (by decide) ?_
 rw [show risingB x = false from by unfold risingB; rw [range_bad hil (show okKey x i = false by unfold okKey; rw [h3_f, h4_f]; rfl)]; rfl] at hX
 exact q_post rfl (.cons rfl (.nil)) hX
 have h4_f : decide (rd x.f6.f3 (i : Int) > x.f1.f2) = false := h4_
 refine s_vg rfl rfl rfl rfl (v_mv rfl rfl) ?_
 refine s_vg rfl rfl rfl rfl (v_ar rfl rfl rfl rfl) ?_
 refine s_vg rfl rfl rfl rfl (v_mv rfl rfl) ?_
 refine s_splitv (d := 31) (t := decide (((i : Int) : Int) > 0)) rfl (fun h5_ => ?_) (fun h5_ => ?_)
 have h5_f : decide ((i : Int) > 0) = true := h5_
 have h5_d := of_decide_eq_true h5_
 refine s_vg rfl rfl rfl rfl (v_mv rfl rfl) ?_
 refine s_vg rfl rfl rfl rfl (v_mv rfl rfl) ?_
 refine s_vg rfl rfl rfl rfl (OpV.cast (v := .int .i64 ((i - 1 : Nat) : Int)) (v_ar rfl rfl rfl rfl) (subN (a := i) (b := 1) (by omega) (by omega))) ?_
 refine s_vg rfl rfl rfl rfl (v_iaK (i := 1) rfl Try.underlying44 SZ41 rfl rfl rfl rfl (by omega) (by omega)) ?_
 refine s_vg rfl rfl rfl rfl (v_ldK (v := .int .u64 (rd x.f6.f3 ((i - 1 : Nat) : Int))) 0 1 rfl Try.underlying41 rfl rfl rfl rfl (by omega) (by omega) (fun w K h => h)) ?_
 refine s_vg rfl rfl rfl rfl (v_mv rfl rfl) ?_
 refine s_vg rfl rfl rfl rfl (v_ar rfl rfl rfl rfl) ?_
 refine s_vg rfl rfl rfl rfl (v_pick rfl rfl rfl rfl) ?_
 refine s_v rfl rfl rfl rfl (v_pick rfl rfl rfl rfl) ?_
 refine s_end ?_
 refine q_seq ?_
 refine c_cond (t := decide ((rd x.f6.f3 ((i - 1 : Nat) : Int) : Int) ≥ (rd x.f6.f3 (i : Int)))) rfl rfl (fun h6_ => ?_) (fun h6_ => ?_)
 have h6_f : decide (rd x.f6.f3 ((i : Int) - 1) ≥ rd x.f6.f3 (i : Int)) = true := by have h_ := h6_; rwa [show ((i - 1 : Nat) : Int) = (i : Int) - 1 by omega] at h_
 refine c_seq rfl ?_
 refine r_ord (l := [0]) rfl (by kernel_rfl) (by kernel_rfl) ?_
 refine s_v rfl rfl rfl rfl (v_as rfl rfl) ?_
 refine s_end ?_
 refine q_seq ?_
 refine c_ret rfl ?_
 refine q_block_ret ?_
 refine q_then_ret ?_
 refine q_then_ret ?_
 refine q_block_ret ?_
 refine q_then_ret ?_
 refine q_take [] rfl (by decide) ?_
 rw [show risingB x = false from by unfold risingB; rw [range_bad hil (show okKey x i = false by unfold okKey; rw [h3_f, h4_f, h5_f, h6_f]; rfl)]; rfl] at hX
 exact q_post rfl (.cons rfl (.nil)) hX
 have h6_f : decide (rd x.f6.f3 ((i : Int) - 1) ≥ rd x.f6.f3 (i : Int)) = false := by have h_ := h6_; rwa [show ((i - 1 : Nat) : Int) = (i : Int) - 1 by omega] at h_
 refine c_skip rfl ?_
 refine q_block ?_
 refine q_seq ?_
 refine r_ord (l := [0, 1]) rfl (by kernel_rfl) (by kernel_rfl) ?_
 refine s_v rfl rfl rfl rfl (OpV.cast (v := .int .i64 ((i + 1 : Nat) : Int)) (v_ar rfl rfl rfl rfl) (addN (a := i) (b := 1) (by omega))) ?_
 refine s_v rfl rfl rfl rfl (v_mv rfl rfl) ?_
 refine s_end ?_
 have hok : okKey x i = true := by unfold okKey; rw [h3_f, h4_f, h5_f, h6_f]; rfl
 exact q_again (i + 1) [0, 1] ⟨by omega, range_next (n := 0) hs.2 hok⟩ (by show x.f6.f3.length - (i + 1) < x.f6.f3.length - i; omega) (subF_spec ⟨rfl, rfl, rfl, rfl, rfl, trivial⟩) rfl (by decide)
 have h5_f : decide ((i : Int) > 0) = false := h5_
 have h5_d := of_decide_eq_false h5_
 refine s_no rfl rfl rfl rfl ?_
 refine s_no rfl rfl rfl rfl ?_
 refine s_no rfl rfl rfl rfl ?_
 refine s_no rfl rfl rfl rfl ?_
 refine s_no rfl rfl rfl rfl ?_
 refine s_no rfl rfl rfl rfl ?_
 refine s_no rfl rfl rfl rfl ?_
 refine s_vg rfl rfl rfl rfl (v_pick rfl rfl rfl rfl) ?_
 refine s_v rfl rfl rfl rfl (v_pick rfl rfl rfl rfl) ?_
 refine s_end ?_
 refine q_seq ?_
 refine c_cond0 rfl rfl ?_
 refine c_skip rfl ?_
 refine q_block ?_
 refine q_seq ?_
 refine r_ord (l := [0, 1]) rfl (by kernel_rfl) (by kernel_rfl) ?_
 refine s_v rfl rfl rfl rfl (OpV.cast (v := .int .i64 ((i + 1 : Nat) : Int)) (v_ar rfl rfl rfl rfl) (addN (a := i) (b := 1) (by omega))) ?_
 refine s_v rfl rfl rfl rfl (v_mv rfl rfl) ?_
 refine s_end ?_
 have hok : okKey x i = true := by unfold okKey; rw [h3_f, h4_f, h5_f]; rfl
 exact q_again (i + 1) [0, 1] ⟨by omega, range_next (n := 0) hs.2 hok⟩ (by show x.f6.f3.length - (i + 1) < x.f6.f3.length - i; omega) (subF_spec ⟨rfl, rfl, rfl, rfl, rfl, trivial⟩) rfl (by decide)
 have hil : ¬ i < x.f6.f3.length := by simpa using h2_
 have hall : (List.range x.f6.f3.length).all (okKey x) = true := by have h_ := hs.2; rwa [show i = x.f6.f3.length by omega] at h_
 refine c_exit (i := 0) rfl rfl ?_
 refine q_then_exit ?_
 refine q_then_exit ?_
 refine q_block_here rfl ?_
 refine q_seq ?_
 refine c_seq rfl ?_
 refine r_ord (l := [0, 1, 2, 3, 4, 5, 6, 7, 8, 9, 10, 11, 12, 13, 14]) rfl (by kernel_rfl) (by kernel_rfl) ?_
 refine s_v rfl rfl rfl rfl (v_mv rfl rfl) ?_
 refine s_v rfl rfl rfl rfl (v_len rfl rfl rfl Try.underlying44 rfl rfl) ?_
 refine s_v rfl rfl rfl rfl (v_fa rfl Try.underlying53 rfl SZ43 rfl) ?_
 refine s_v rfl rfl rfl rfl (v_fa rfl Try.underlying43 rfl SZ3 rfl) ?_
 refine s_v rfl rfl rfl rfl (v_ld 0 rfl Try.underlying3 rfl rfl rfl rfl) ?_
 refine s_v rfl rfl rfl rfl (v_max (x := .tmp 0) (y := .tmp 0) rfl rfl rfl) ?_
 refine s_v rfl rfl rfl rfl (v_ar rfl rfl rfl rfl) ?_
 refine s_v rfl rfl rfl rfl (v_mv rfl rfl) ?_
 refine s_splitv (d := 49) (t := decide (((x.f6.f3.length : Nat) : Int) ≤ (if (0 : Int) < x.f1.f3 then x.f1.f3 else 0))) rfl (fun h7_ => ?_) (fun h7_ => ?_)
 refine s_vg rfl rfl rfl rfl (v_fa rfl Try.underlying53 rfl SZ3 rfl) ?_
 refine s_vg rfl rfl rfl rfl (v_ld 0 rfl Try.underlying3 rfl rfl rfl rfl) ?_
 refine s_vg rfl rfl rfl rfl (v_fa rfl Try.underlying53 rfl SZ3 rfl) ?_
 refine s_vg rfl rfl rfl rfl (v_ld 0 rfl Try.underlying3 rfl rfl rfl rfl) ?_
 refine s_vg rfl rfl rfl rfl (v_ar rfl rfl rfl rfl) ?_
 refine s_v rfl rfl rfl rfl (v_pick rfl rfl rfl rfl) ?_
 refine s_v rfl rfl rfl rfl (v_as rfl rfl) ?_
 refine s_end ?_
 refine q_seq ?_
 refine c_ret rfl ?_
 refine q_take [] rfl (by decide) ?_
 rw [show risingB x = (decide ((x.f2 : Int) ≤ x.f4)) from by unfold risingB; rw [hall, show decide ((x.f6.f3.length : Int) ≤ mx 0 x.f1.f3) = true from h7_]; rfl] at hX
 exact q_post rfl (.cons rfl (.nil)) hX
 refine s_no rfl rfl rfl rfl ?_
 refine s_no rfl rfl rfl rfl ?_
 refine s_no rfl rfl rfl rfl ?_
 refine s_no rfl rfl rfl rfl ?_
 refine s_no rfl rfl rfl rfl ?_
 refine s_v rfl rfl rfl rfl (v_pick rfl rfl rfl rfl) ?_
 refine s_v rfl rfl rfl rfl (v_as rfl rfl) ?_
 refine s_end ?_
 refine q_seq ?_
 refine c_ret rfl ?_
 refine q_take [] rfl (by decide) ?_
 rw [show risingB x = false from by unfold risingB; rw [hall, show decide ((x.f6.f3.length : Int) ≤ mx 0 x.f1.f3) = false from h7_]; rfl] at hX
 exact q_post rfl (.cons rfl (.nil)) hX
end Go.Eng
