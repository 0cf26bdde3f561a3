/-
Own text, put together by an own program (shake.py) out of this claim's texts: what its theorem needs of them.
-/
import Derived.Test.YtiihjijmmephlaaA5
namespace Go.Eng
open Go.Proofs Go.RowKit Go.Proofs.YtiihjijmmephlaaW.PrintWords Go.Proofs.Ytiihjijmmephlaa.GHist
set_option linter.unusedVariables false
set_option linter.unusedSimpArgs false
theorem index_l (l : List Int) (a : Int) (hl : l.length ≤ 1000) : ∀ (d k i : Nat), i ≤ l.length → l.length - i = d → d < k → ∃ r, slices_Index_uint64_uint64.l0 k l a (l.length : Int) (i : Int) = some r ∧ decide (r ≥ 0) = (l.drop i).contains a := by
  intro d
  induction d with
  | zero =>
    intro k i h1 h2 h3
    obtain ⟨k, rfl⟩ : ∃ m, k = m + 1 := ⟨k - 1, by omega⟩
    simp only [slices_Index_uint64_uint64.l0]
    rw [if_neg (by omega), List.drop_of_length_le (by omega)]
    exact ⟨-1, rfl, by simp⟩
  | succ d ih =>
    intro k i h1 h2 h3
    obtain ⟨k, rfl⟩ : ∃ m, k = m + 1 := ⟨k - 1, by omega⟩
    have e1 : wrap64 ((i : Int) + 1) = ((i + 1 : Nat) : Int) := by rw [w64 (by omega) (by omega)]; omega
    simp only [slices_Index_uint64_uint64.l0, e1]
    rw [if_pos (by omega), if_pos (by omega), if_pos (by omega), List.drop_eq_getElem_cons (show i < l.length by omega)]
    have e : rd l (i : Int) = l[i]'(by omega) := rdI (by omega)
    by_cases h : a = rd l (i : Int)
    · rw [if_pos h]
      rw [e] at h
      exact ⟨i, rfl, by rw [List.contains_cons, show (a == l[i]'(by omega)) = true by simp [h], Bool.true_or]; simp⟩
    · rw [if_neg h]
      obtain ⟨r, hr, hc⟩ := ih k (i + 1) (by omega) (by omega) (by omega)
      rw [e] at h
      exact ⟨r, hr, by rw [hc, List.contains_cons, show (a == l[i]'(by omega)) = false by simp [h], Bool.false_or]⟩
theorem contains_f (l : List Int) (a : Int) (hl : l.length ≤ 1000) : slices_Contains_uint64_uint64.f 5000 l a = some (l.contains a) := by
  obtain ⟨r, hr, hc⟩ := index_l l a hl l.length 5000 0 (Nat.zero_le _) (by omega) (by omega)
  have hr' : slices_Index_uint64_uint64.f 5000 l a = some r := hr
  unfold slices_Contains_uint64_uint64.f
  rw [hr', Option.bind_some, hc, List.drop_zero]
theorem in_l (l : List Int) (a : Int) (hl : l.length ≤ 1000) : ∀ (d k i : Nat), i ≤ l.length → l.length - i = d → d < k → stepstoneref08_in.l0 k l a (i : Int) = some ((l.drop i).contains a) := by
  intro d
  induction d with
  | zero =>
    intro k i h1 h2 h3
    obtain ⟨k, rfl⟩ : ∃ m, k = m + 1 := ⟨k - 1, by omega⟩
    simp only [stepstoneref08_in.l0]
    rw [if_neg (by omega), List.drop_of_length_le (by omega)]
    rfl
  | succ d ih =>
    intro k i h1 h2 h3
    obtain ⟨k, rfl⟩ : ∃ m, k = m + 1 := ⟨k - 1, by omega⟩
    have e1 : wrap64 ((i : Int) + 1) = ((i + 1 : Nat) : Int) := by rw [w64 (by omega) (by omega)]; omega
    have e : rd l (i : Int) = l[i]'(by omega) := rdI (by omega)
    simp only [stepstoneref08_in.l0, e1, ih k (i + 1) (by omega) (by omega) (by omega)]
    rw [if_pos (by omega), if_pos (by omega), List.drop_eq_getElem_cons (show i < l.length by omega), e]
    by_cases h : l[i]'(by omega) = a
    · rw [if_pos h, List.contains_cons, show (a == l[i]'(by omega)) = true by simp [h], Bool.true_or]
    · rw [if_neg h, List.contains_cons, show (a == l[i]'(by omega)) = false by simp [Ne.symm h], Bool.false_or]
theorem in_f (l : List Int) (a : Int) (hl : l.length ≤ 1000) : stepstoneref08_in.f 5000 l a = some (l.contains a) := by
  have := in_l l a hl l.length 5000 0 (Nat.zero_le _) (by omega) (by omega)
  rwa [List.drop_zero] at this
theorem getM_any (m : List S56) (k : Int) : (getM m k).2.1 = m.any (fun p => p.f0 == k) := by
  unfold getM
  cases h : m.find? (fun p => p.f0 == k) with
  | none => rw [List.find?_eq_none] at h; symm; simpa using h
  | some p => symm; rw [List.any_eq_true]; exact ⟨p, List.mem_of_find?_eq_some h, by simpa using List.find?_some h⟩
theorem hasr_l (m : List S56) (a : Int) (hl : m.length ≤ 1000) : ∀ (d k i : Nat), i ≤ m.length → m.length - i = d → d < k → stepstoneref08_has.l0 k (m.map old) a (i : Int) = some ((m.drop i).any (fun p => p.f0 == a)) := by
  intro d
  induction d with
  | zero =>
    intro k i h1 h2 h3
    obtain ⟨k, rfl⟩ : ∃ m, k = m + 1 := ⟨k - 1, by omega⟩
    simp only [stepstoneref08_has.l0, List.length_map]
    rw [if_neg (by omega), List.drop_of_length_le (by omega)]
    rfl
  | succ d ih =>
    intro k i h1 h2 h3
    obtain ⟨k, rfl⟩ : ∃ m, k = m + 1 := ⟨k - 1, by omega⟩
    have e1 : wrap64 ((i : Int) + 1) = ((i + 1 : Nat) : Int) := by rw [w64 (by omega) (by omega)]; omega
    have e : (rd_T61 (m.map old) (i : Int)).f0 = (m[i]'(by omega)).f0 := rdo (by omega)
    simp only [stepstoneref08_has.l0, e1, ih k (i + 1) (by omega) (by omega) (by omega), List.length_map]
    rw [if_pos (by omega), if_pos (by omega), List.drop_eq_getElem_cons (show i < m.length by omega), e, List.any_cons]
    by_cases h : (m[i]'(by omega)).f0 = a
    · rw [if_pos h]; simp [h]
    · rw [if_neg h]; simp [h]
theorem hasr_f (m : List S56) (a : Int) (hl : m.length ≤ 1000) : stepstoneref08_has.f 5000 (m.map old) a = some (getM m a).2.1 := by
  have := hasr_l m a hl m.length 5000 0 (Nat.zero_le _) (by omega) (by omega)
  rw [List.drop_zero, ← getM_any] at this
  exact this
def onceL (l : List S48) (x : S48) (k : Int) : Bool := (mapsL l x (ordL l).length).any (fun y : S35 => (getM y.f0 k).2.1)
def alwaysL (l : List S48) (x : S48) (k : Int) : Bool := !((mapsL l x (ordL l).length).any (fun y : S35 => !(getM y.f0 k).2.1))
def beyondB (x : S48) (k : Int) : Bool := decide ((x.f6.f3.length : Int) ≥ mx 0 x.f1.f3) && (((x.f6.f3.length : Int) == 0) || decide (k > rd x.f6.f3 ((x.f6.f3.length : Int) - 1)))
def pairBad (l : List S48) (x : S48) (k : Int) : Bool := decide (k ≥ x.f1.f1) && (decide (k ≤ x.f1.f2) && (alwaysL l x k && (!(beyondB x k) && !(x.f6.f3.contains k))))
def okR (l : List S48) (x : S48) : Bool := risingB x && (!(x.f6.f3.any (fun k => !(onceL l x k))) && (mapF l x.f2 (ordL l)).all (fun p => !(pairBad l x p.f0)))
def okB (l : List S48) (x : S48) : Bool := !(x.f1.f0 == 5) || (!x.f5 || okR l x)
def rangesM (l : List S48) : Bool := l.all (okB l)
def amidR (l : List S48) (x : S48) (k : Int) : Bool := hapB (rd_T48 l k) && (decide (keyA l k > x.f2) && decide (keyA l k ≤ x.f4))
def timesL (l : List S48) (x : S48) (j : Nat) : List Int := x.f2 :: ((List.range j).filter (fun (k : Nat) => amidR l x (k : Int))).map (fun (k : Nat) => keyA l (k : Int))
theorem times_yes {l : List S48} {x : S48} {j : Nat} (h : amidR l x (j : Int) = true) : timesL l x (j + 1) = timesL l x j ++ [keyA l (j : Int)] := by
  simp [timesL, List.range_succ, List.filter_append, h]
theorem times_no {l : List S48} {x : S48} {j : Nat} (h : amidR l x (j : Int) = false) : timesL l x (j + 1) = timesL l x j := by
  simp [timesL, List.range_succ, List.filter_append, h]
theorem times_len (l : List S48) (x : S48) (j : Nat) : (timesL l x j).length ≤ j + 1 := by
  unfold timesL
  rw [List.length_cons, List.length_map]
  have h1 := List.length_filter_le (fun (k : Nat) => amidR l x (k : Int)) (List.range j)
  rw [List.length_range] at h1
  omega
theorem times_hap (l : List S48) (x : S48) : timesL l x l.length = x.f2 :: ((hapTo l l.length).filter (amid l x)).map (keyA l) := by
  unfold timesL hapTo
  rw [List.filter_map, List.map_map, List.filter_filter]
  congr 2
  apply List.filter_congr
  intro k _
  simp [amidR, amid, Bool.and_comm]
theorem any_times (l : List S48) (x : S48) (p : List S56 → Bool) : (mapsL l x (ordL l).length).any (fun y : S35 => p y.f0) = (timesL l x l.length).any (fun t => p (mapF l t (ordL l))) := by
  rw [times_hap]
  unfold mapsL
  rw [List.take_length, List.any_cons, List.any_cons, List.any_map, List.any_map]
  congr 1
  exact ((sortA_perm (keyA l) (hapTo l l.length)).filter (amid l x)).any_eq
theorem once_times (l : List S48) (x : S48) (k : Int) : onceL l x k = (timesL l x l.length).any (fun t => (getM (mapF l t (ordL l)) k).2.1) := any_times l x (fun m => (getM m k).2.1)
theorem always_times (l : List S48) (x : S48) (k : Int) : alwaysL l x k = (timesL l x l.length).all (fun t => (getM (mapF l t (ordL l)) k).2.1) := by
  unfold alwaysL
  rw [any_times l x (fun m => !(getM m k).2.1), List.any_eq_not_all_not]
  simp
theorem all_nextG {α : Type} {l : List α} {i : Nat} {p : α → Bool} (h : i < l.length) (ha : (l.take i).all p = true) (ht : p l[i] = true) : (l.take (i + 1)).all p = true := by
  rw [List.take_succ_eq_append_getElem h, List.all_append, ha]; simp [ht]
theorem all_badG {α : Type} {l : List α} {i : Nat} {p : α → Bool} (h : i < l.length) (ht : p l[i] = false) : l.all p = false := by
  rw [List.all_eq_false]; exact ⟨l[i], List.getElem_mem h, by simp [ht]⟩
theorem all_endG {α : Type} {l : List α} {i : Nat} {p : α → Bool} (h : l.length ≤ i) (ha : (l.take i).all p = true) : l.all p = true := by
  rwa [List.take_of_length_le h] at ha
theorem any_nextG {α : Type} {l : List α} {i : Nat} {p : α → Bool} (h : i < l.length) : (l.take (i + 1)).any p = ((l.take i).any p || p l[i]) := by
  rw [List.take_succ_eq_append_getElem h, List.any_append]; simp
theorem all_nextE {α : Type} {l : List α} {i : Nat} {p : α → Bool} (h : i < l.length) : (l.take (i + 1)).all p = ((l.take i).all p && p l[i]) := by
  rw [List.take_succ_eq_append_getElem h, List.all_append]; simp
theorem rd48 {l : List S48} {i : Nat} (h : i < l.length) : rd_T48 l (i : Int) = l[i] := by simp [rd_T48, List.getD_eq_getElem?_getD, h]
theorem rd56' {l : List S56} {i : Nat} (h : i < l.length) : rd_T56 l (i : Int) = l[i] := by simp [rd_T56, List.getD_eq_getElem?_getD, h]
theorem mapsL_len (l : List S48) (x : S48) (j : Nat) : 0 < (mapsL l x j).length := by simp [mapsL]
theorem mapsL_S {l : List S48} {x : S48} {j : Nat} (hl : l.length ≤ 80) : ∀ y ∈ mapsL l x j, Srt y.f0 ∧ y.f0.length ≤ 1000 := by
  have h : ∀ t, Srt (mapF l t (ordL l)) ∧ (mapF l t (ordL l)).length ≤ 1000 := fun t => by
    have h1 := mapF_facts l t (ordL l)
    have h2 := ordL_len l
    exact ⟨h1.1, by omega⟩
  intro y hy
  unfold mapsL at hy
  rcases List.mem_cons.1 hy with rfl | hy
  · exact h _
  · obtain ⟨k, _, rfl⟩ := List.mem_map.1 hy
    exact h _
theorem okR_bad1 {l : List S48} {x : S48} (h : x.f2 > x.f4) : okR l x = false := by
  have : ¬ x.f2 ≤ x.f4 := by omega
  simp [okR, risingB, this]
theorem okR_bad2 {l : List S48} {x : S48} (h : (x.f6.f3.length : Int) > mx 0 x.f1.f3) : okR l x = false := by
  have : ¬ (x.f6.f3.length : Int) ≤ mx 0 x.f1.f3 := by omega
  simp [okR, risingB, this]
theorem okR_bad3 {l : List S48} {x : S48} {i : Nat} (h : i < x.f6.f3.length) (hb : okKey x i = false) : okR l x = false := by
  simp [okR, risingB, range_bad h hb]
theorem okR_bad4 {l : List S48} {x : S48} {i : Nat} (h : i < x.f6.f3.length) (hb : onceL l x (rd x.f6.f3 (i : Int)) = false) : okR l x = false := by
  have : x.f6.f3.any (fun k => !(onceL l x k)) = true := anyI_hit h (by simp [hb])
  simp [okR, this]
theorem okR_bad5 {l : List S48} {x : S48} {i : Nat} (h : i < (mapF l x.f2 (ordL l)).length) (hb : pairBad l x ((mapF l x.f2 (ordL l))[i]).f0 = true) : okR l x = false := by
  have : (mapF l x.f2 (ordL l)).all (fun p => !(pairBad l x p.f0)) = false := all_badG h (by simp [hb])
  simp [okR, this]
end Go.Eng
namespace Go.Eng
open Go.Proofs Go.RowKit Go.Proofs.YtiihjijmmephlaaW.PrintWords Go.Proofs.Ytiihjijmmephlaa.GHist
set_option linter.unusedVariables false
set_option linter.unusedSimpArgs false
set_option maxRecDepth 100000 in
set_option maxHeartbeats 4000000 in
theorem ranges_con (A : Option Addr) (c : Nat) (l : List S48) (hl : l.length ≤ 80) (hn : (hapTo l l.length).length ≤ 40) (hK : ∀ x ∈ l, x.f6.f3.length ≤ 40) (w0 : World) (H : List Nat) : Con Try.prog 21 #[.slice A l.length c] w0 H [.f (KC k48 A c l)] (fun X => X (.bool (rangesM l)) []) := by
 refine con_enter (c := bodyOf Try.f21) Try.func21 rfl (m := 109) rfl rfl rfl ?_
 intro X hX _
 refine c_seq rfl ?_
 refine r_ord (l := [0]) rfl (by kernel_rfl) (by kernel_rfl) ?_
 refine s_v rfl rfl rfl rfl (v_as rfl rfl) ?_
 refine s_end ?_
 refine q_seq ?_
 refine c_seq rfl ?_
 refine c_seq rfl ?_
 refine r_ord (l := [0, 1, 2]) rfl (by kernel_rfl) (by kernel_rfl) ?_
 refine s_v rfl rfl rfl rfl (v_mv rfl rfl) ?_
 refine s_v rfl rfl rfl rfl (v_len rfl rfl rfl Try.underlying27 rfl rfl) ?_
 refine s_v rfl rfl rfl rfl (v_mv rfl rfl) ?_
 refine s_end ?_
 refine q_seq ?_
 refine c_block rfl ?_
 refine c_loop (σ := Nat) (fun i => i ≤ l.length ∧ (l.take i).all (okB l) = true) (fun i => l.length - i) (fun i => [(0, .slice A l.length c), (13, .slice A l.length c), (14, .int .i64 (l.length : Nat)), (15, .int .i64 (i : Int))]) (fun i => [.f (KC k48 A c l)]) 0 [0] rfl ⟨Nat.zero_le _, rfl⟩ (subF_spec ⟨rfl, rfl, rfl, rfl, trivial⟩) rfl (by decide) ?_
 rintro i hs
 have hi_ : i ≤ l.length := hs.1
 have hso := hs.2
 refine c_seq rfl ?_
 refine r_ord (l := [0]) rfl (by kernel_rfl) (by kernel_rfl) ?_
 refine s_v rfl rfl rfl rfl (v_ar rfl rfl rfl rfl) ?_
 refine s_end ?_
 refine q_seq ?_
 refine c_seq rfl ?_
 refine c_cond (t := decide (((i : Int) : Int) < (l.length : Nat))) rfl rfl (fun h1_ => ?_) (fun h1_ => ?_)
 have h1_d := of_decide_eq_true h1_
 have hil : i < l.length := by omega
 have hkl : (rd_T48 l (i : Int)).f6.f3.length ≤ 40 := hK _ (el_mem hil)
 have hml : (mapF l (rd_T48 l (i : Int)).f2 (ordL l)).length ≤ 1000 := by have h_ := mapF_facts l (rd_T48 l (i : Int)).f2 (ordL l); have := ordL_len l; omega
 have hMl : (mapsL l (rd_T48 l (i : Int)) (ordL l).length).length ≤ 1000 := by have := maps_len l (rd_T48 l (i : Int)) (ordL l).length; have := ordL_len l; omega
 have hMS : ∀ x ∈ (mapsL l (rd_T48 l (i : Int)) (ordL l).length), Srt x.f0 ∧ x.f0.length ≤ 1000 := mapsL_S hl
 refine c_skip rfl ?_
 refine q_seq ?_
 refine c_seq rfl ?_
 refine c_block rfl ?_
 refine c_seq rfl ?_
 refine r_ord (l := [0, 1, 2, 3]) rfl (by kernel_rfl) (by kernel_rfl) ?_
 refine s_v rfl rfl rfl rfl (v_iaK (i := 0) rfl Try.underlying27 SZ53 rfl rfl rfl rfl (by omega) (by omega)) ?_
 refine s_e rfl rfl (e_ldKX z48 0 rfl rfl rfl Try.underlying53 rfl SZ53 rfl rfl rfl (by omega) (by omega)) ?_
 intro cs2_ h3_
 refine s_know 0 rfl (fun w h => k48_sh h) (fun h4_ => ?_)
 obtain ⟨A5_, c6_, rfl⟩ := h4_
 refine s_weak 0 rfl (fun w h => k48_row h) ?_
 refine s_e rfl rfl (e_alloc rfl rfl rfl ZR53) ?_
 intro b7_
 refine s_e rfl rfl (e_stA 0 rfl rfl SZ53 rfl rfl rfl rfl rfl rfl) ?_
 refine s_end ?_
 refine q_seq ?_
 refine c_seq rfl ?_
 refine c_seq rfl ?_
 refine r_ord (l := [0, 1, 2, 3, 4, 5, 6, 7]) rfl (by kernel_rfl) (by kernel_rfl) ?_
 refine s_v rfl rfl rfl rfl (v_ldA [.int .i64 ((rd_T48 l (i : Int)).f0), .int .i64 ((rd_T48 l (i : Int)).f1.f0), .int .u64 ((rd_T48 l (i : Int)).f1.f1), .int .u64 ((rd_T48 l (i : Int)).f1.f2), .int .i64 ((rd_T48 l (i : Int)).f1.f3), .int .i64 ((rd_T48 l (i : Int)).f1.f4), .int .i64 ((rd_T48 l (i : Int)).f2), .int .i64 ((rd_T48 l (i : Int)).f3), .int .i64 ((rd_T48 l (i : Int)).f4), .bool ((rd_T48 l (i : Int)).f5), .bool ((rd_T48 l (i : Int)).f6.f0), .bool ((rd_T48 l (i : Int)).f6.f1), .int .u64 ((rd_T48 l (i : Int)).f6.f2), .slice A5_ ((rd_T48 l (i : Int)).f6.f3.length) c6_] 0 rfl Try.underlying53 rfl SZ53 rfl rfl rfl rfl) ?_
 refine s_e rfl rfl (e_callF [1] #[.agg #[.int .i64 ((rd_T48 l (i : Int)).f0), .int .i64 ((rd_T48 l (i : Int)).f1.f0), .int .u64 ((rd_T48 l (i : Int)).f1.f1), .int .u64 ((rd_T48 l (i : Int)).f1.f2), .int .i64 ((rd_T48 l (i : Int)).f1.f3), .int .i64 ((rd_T48 l (i : Int)).f1.f4), .int .i64 ((rd_T48 l (i : Int)).f2), .int .i64 ((rd_T48 l (i : Int)).f3), .int .i64 ((rd_T48 l (i : Int)).f4), .bool ((rd_T48 l (i : Int)).f5), .bool ((rd_T48 l (i : Int)).f6.f0), .bool ((rd_T48 l (i : Int)).f6.f1), .int .u64 ((rd_T48 l (i : Int)).f6.f2), .slice A5_ ((rd_T48 l (i : Int)).f6.f3.length) c6_]] rfl rfl rfl rfl rfl Try.func24 rfl (by decide) rfl rfl rfl rfl (fun w ht => evr_con (rd_T48 l (i : Int)) A5_ c6_ w _)) ?_
 refine s_v rfl rfl rfl rfl (v_not rfl rfl) ?_
 refine s_v rfl rfl rfl rfl (v_mv rfl rfl) ?_
 refine s_splitv (d := 22) (t := !((rd_T48 l (i : Int)).f1.f0 == 5)) rfl (fun h8_ => ?_) (fun h8_ => ?_)
 refine s_no rfl rfl rfl rfl ?_
 refine s_no rfl rfl rfl rfl ?_
 refine s_no rfl rfl rfl rfl ?_
 refine s_v rfl rfl rfl rfl (v_pick rfl rfl rfl rfl) ?_
 refine s_end ?_
 refine q_seq ?_
 refine c_cond1 rfl rfl ?_
 refine c_exit (i := 1) rfl rfl ?_
 refine q_then_exit ?_
 refine q_block_here rfl ?_
 refine q_seq ?_
 refine r_ord (l := [0, 1]) rfl (by kernel_rfl) (by kernel_rfl) ?_
 refine s_v rfl rfl rfl rfl (OpV.cast (v := .int .i64 ((i + 1 : Nat) : Int)) (v_ar rfl rfl rfl rfl) (addN (a := i) (b := 1) (by omega))) ?_
 refine s_v rfl rfl rfl rfl (v_mv rfl rfl) ?_
 refine s_end ?_
 have hok : okB l (rd_T48 l (i : Int)) = true := by unfold okB; rw [h8_]; rfl
 rw [rd48 hil] at hok
 exact q_again (i + 1) [3] ⟨by omega, all_nextG hil hso hok⟩ (by show l.length - (i + 1) < l.length - i; omega) (subF_spec ⟨rfl, rfl, rfl, rfl, trivial⟩) rfl (by decide)
 refine s_vg rfl rfl rfl rfl (v_fa rfl Try.underlying53 rfl SZ4 rfl) ?_
 refine s_vg rfl rfl rfl rfl (v_ld 0 rfl Try.underlying4 rfl rfl rfl rfl) ?_
 refine s_vg rfl rfl rfl rfl (v_not rfl rfl) ?_
 refine s_v rfl rfl rfl rfl (v_pick rfl rfl rfl rfl) ?_
 refine s_end ?_
 refine q_seq ?_
 refine c_cond (t := !((rd_T48 l (i : Int)).f5)) rfl rfl (fun h9_ => ?_) (fun h9_ => ?_)
 refine c_exit (i := 1) rfl rfl ?_
 refine q_then_exit ?_
 refine q_block_here rfl ?_
 refine q_seq ?_
 refine r_ord (l := [0, 1]) rfl (by kernel_rfl) (by kernel_rfl) ?_
 refine s_v rfl rfl rfl rfl (OpV.cast (v := .int .i64 ((i + 1 : Nat) : Int)) (v_ar rfl rfl rfl rfl) (addN (a := i) (b := 1) (by omega))) ?_
 refine s_v rfl rfl rfl rfl (v_mv rfl rfl) ?_
 refine s_end ?_
 have hok : okB l (rd_T48 l (i : Int)) = true := by unfold okB; rw [h8_, h9_]; rfl
 rw [rd48 hil] at hok
 exact q_again (i + 1) [3] ⟨by omega, all_nextG hil hso hok⟩ (by show l.length - (i + 1) < l.length - i; omega) (subF_spec ⟨rfl, rfl, rfl, rfl, trivial⟩) rfl (by decide)
 refine c_skip rfl ?_
 refine q_seq ?_
 refine c_seq rfl ?_
 refine r_ord (l := [0, 1, 2, 3, 4]) rfl (by kernel_rfl) (by kernel_rfl) ?_
 refine s_v rfl rfl rfl rfl (v_mv rfl rfl) ?_
 refine s_v rfl rfl rfl rfl (v_ldA [.int .i64 ((rd_T48 l (i : Int)).f0), .int .i64 ((rd_T48 l (i : Int)).f1.f0), .int .u64 ((rd_T48 l (i : Int)).f1.f1), .int .u64 ((rd_T48 l (i : Int)).f1.f2), .int .i64 ((rd_T48 l (i : Int)).f1.f3), .int .i64 ((rd_T48 l (i : Int)).f1.f4), .int .i64 ((rd_T48 l (i : Int)).f2), .int .i64 ((rd_T48 l (i : Int)).f3), .int .i64 ((rd_T48 l (i : Int)).f4), .bool ((rd_T48 l (i : Int)).f5), .bool ((rd_T48 l (i : Int)).f6.f0), .bool ((rd_T48 l (i : Int)).f6.f1), .int .u64 ((rd_T48 l (i : Int)).f6.f2), .slice A5_ ((rd_T48 l (i : Int)).f6.f3.length) c6_] 0 rfl Try.underlying53 rfl SZ53 rfl rfl rfl rfl) ?_
 refine s_e rfl rfl (e_callF [3] #[.slice A l.length c, .agg #[.int .i64 ((rd_T48 l (i : Int)).f0), .int .i64 ((rd_T48 l (i : Int)).f1.f0), .int .u64 ((rd_T48 l (i : Int)).f1.f1), .int .u64 ((rd_T48 l (i : Int)).f1.f2), .int .i64 ((rd_T48 l (i : Int)).f1.f3), .int .i64 ((rd_T48 l (i : Int)).f1.f4), .int .i64 ((rd_T48 l (i : Int)).f2), .int .i64 ((rd_T48 l (i : Int)).f3), .int .i64 ((rd_T48 l (i : Int)).f4), .bool ((rd_T48 l (i : Int)).f5), .bool ((rd_T48 l (i : Int)).f6.f0), .bool ((rd_T48 l (i : Int)).f6.f1), .int .u64 ((rd_T48 l (i : Int)).f6.f2), .slice A5_ ((rd_T48 l (i : Int)).f6.f3.length) c6_]] rfl rfl rfl rfl rfl Try.func35 rfl (by decide) rfl rfl rfl rfl (fun w ht => maps_con A c l (rd_T48 l (i : Int)) A5_ c6_ hl hn w _)) ?_
 intro A10_ c11_
 refine s_e rfl rfl (e_alloc rfl rfl rfl ZR67) ?_
 intro b12_
 refine s_e rfl rfl (e_st 0 rfl rfl SZ67 rfl rfl rfl rfl (blt_lt rfl)) ?_
 refine s_end ?_
 refine q_seq ?_
 refine c_seq rfl ?_
 refine r_ord (l := [0, 1, 2]) rfl (by kernel_rfl) (by kernel_rfl) ?_
 refine s_v rfl rfl rfl rfl (v_mf rfl rfl rfl) ?_
 refine s_e rfl rfl (e_alloc rfl rfl rfl ZR72) ?_
 intro b13_
 refine s_e rfl rfl (e_st 0 rfl rfl SZ72 rfl rfl rfl rfl (blt_lt rfl)) ?_
 refine s_end ?_
 refine q_seq ?_
 refine c_seq rfl ?_
 refine r_ord (l := [0, 1]) rfl (by kernel_rfl) (by kernel_rfl) ?_
 refine s_v rfl rfl rfl rfl (v_mf rfl rfl rfl) ?_
 refine s_v rfl rfl rfl rfl (v_as rfl rfl) ?_
 refine s_end ?_
 refine q_seq ?_
 refine c_seq rfl ?_
 refine r_ord (l := [0, 1, 2, 3]) rfl (by kernel_rfl) (by kernel_rfl) ?_
 refine s_v rfl rfl rfl rfl (v_fa rfl Try.underlying53 rfl SZ46 rfl) ?_
 refine s_v rfl rfl rfl rfl (v_fa rfl Try.underlying46 rfl SZ44 rfl) ?_
 refine s_v rfl rfl rfl rfl (v_ld 3 rfl Try.underlying44 rfl rfl rfl rfl) ?_
 refine s_v rfl rfl rfl rfl (v_as rfl rfl) ?_
 refine s_end ?_
 refine q_seq ?_
 refine c_seq rfl ?_
 refine c_seq rfl ?_
 refine r_ord (l := [0, 1, 2, 3, 4, 5, 6, 7]) rfl (by kernel_rfl) (by kernel_rfl) ?_
 refine s_v rfl rfl rfl rfl (v_ldA [.int .i64 ((rd_T48 l (i : Int)).f0), .int .i64 ((rd_T48 l (i : Int)).f1.f0), .int .u64 ((rd_T48 l (i : Int)).f1.f1), .int .u64 ((rd_T48 l (i : Int)).f1.f2), .int .i64 ((rd_T48 l (i : Int)).f1.f3), .int .i64 ((rd_T48 l (i : Int)).f1.f4), .int .i64 ((rd_T48 l (i : Int)).f2), .int .i64 ((rd_T48 l (i : Int)).f3), .int .i64 ((rd_T48 l (i : Int)).f4), .bool ((rd_T48 l (i : Int)).f5), .bool ((rd_T48 l (i : Int)).f6.f0), .bool ((rd_T48 l (i : Int)).f6.f1), .int .u64 ((rd_T48 l (i : Int)).f6.f2), .slice A5_ ((rd_T48 l (i : Int)).f6.f3.length) c6_] 3 rfl Try.underlying53 rfl SZ53 rfl rfl rfl rfl) ?_
 refine s_e rfl rfl (e_callF [4] #[.agg #[.int .i64 ((rd_T48 l (i : Int)).f0), .int .i64 ((rd_T48 l (i : Int)).f1.f0), .int .u64 ((rd_T48 l (i : Int)).f1.f1), .int .u64 ((rd_T48 l (i : Int)).f1.f2), .int .i64 ((rd_T48 l (i : Int)).f1.f3), .int .i64 ((rd_T48 l (i : Int)).f1.f4), .int .i64 ((rd_T48 l (i : Int)).f2), .int .i64 ((rd_T48 l (i : Int)).f3), .int .i64 ((rd_T48 l (i : Int)).f4), .bool ((rd_T48 l (i : Int)).f5), .bool ((rd_T48 l (i : Int)).f6.f0), .bool ((rd_T48 l (i : Int)).f6.f1), .int .u64 ((rd_T48 l (i : Int)).f6.f2), .slice A5_ ((rd_T48 l (i : Int)).f6.f3.length) c6_]] rfl rfl rfl rfl rfl Try.func42 rfl (by decide) rfl rfl rfl rfl (fun w ht => risingC (rd_T48 l (i : Int)) A5_ c6_ (by omega) w _)) ?_
 refine s_v rfl rfl rfl rfl (v_not rfl rfl) ?_
 refine s_v rfl rfl rfl rfl (v_mv rfl rfl) ?_
 refine s_splitv (d := 38) (t := !(risingB (rd_T48 l (i : Int)))) rfl (fun h14_ => ?_) (fun h14_ => ?_)
 refine s_no rfl rfl rfl rfl ?_
 refine s_no rfl rfl rfl rfl ?_
 refine s_no rfl rfl rfl rfl ?_
 refine s_v rfl rfl rfl rfl (v_pick rfl rfl rfl rfl) ?_
 refine s_end ?_
 refine q_seq ?_
 refine c_cond1 rfl rfl ?_
 refine c_seq rfl ?_
 refine r_ord (l := [0]) rfl (by kernel_rfl) (by kernel_rfl) ?_
 refine s_v rfl rfl rfl rfl (v_as rfl rfl) ?_
 refine s_end ?_
 refine q_seq ?_
 refine c_ret rfl ?_
 refine q_then_ret ?_
 refine q_block_ret ?_
 refine q_then_ret ?_
 refine q_then_ret ?_
 refine q_block_ret ?_
 refine q_then_ret ?_
 refine q_take [] rfl (by decide) ?_
 have hr_ : okR l (rd_T48 l (i : Int)) = false := by unfold okR; rw [show risingB (rd_T48 l (i : Int)) = false by simpa using h14_]; rfl
 have hb_ : okB l (rd_T48 l (i : Int)) = false := by unfold okB; rw [h8_, h9_, hr_]; rfl
 rw [rd48 hil] at hb_
 rw [show rangesM l = false from all_badG hil hb_] at hX
 exact q_post rfl (.cons rfl (.nil)) hX
 refine s_vg rfl rfl rfl rfl (v_mv rfl rfl) ?_
 refine s_vg rfl rfl rfl rfl (v_mf rfl rfl rfl) ?_
 refine s_give [1, 0, 2, 3, 4, 5, 6] rfl (by decide) (by simp [ids, Ent.id?]) (fun w h => h) ?_
 refine s_give [1, 0, 2, 3, 4, 5, 6] rfl (by decide) (by simp [ids, Ent.id?]) (fun w h => h) ?_
 refine s_eg rfl rfl (e_callF [4, 2, 1, 0] #[.slice A5_ ((rd_T48 l (i : Int)).f6.f3.length) c6_, .func (.func 44) #[] #[.pointer (some ⟨b13_, 0, none⟩)]] rfl rfl rfl rfl rfl Try.func43 rfl (by decide) rfl rfl rfl rfl (fun w ht => miss_any b12_ b13_ A10_ c11_ (mapsL l (rd_T48 l (i : Int)) (ordL l).length) A5_ c6_ ((rd_T48 l (i : Int)).f6.f3) (by omega) hMl hMS w _)) ?_
 refine s_v rfl rfl rfl rfl (v_pick rfl rfl rfl rfl) ?_
 refine s_end ?_
 refine q_seq ?_
 refine c_cond (t := (rd_T48 l (i : Int)).f6.f3.any (fun k : Int => !((mapsL l (rd_T48 l (i : Int)) (ordL l).length).any (fun x : S35 => (getM x.f0 k).2.1)))) rfl rfl (fun h15_ => ?_) (fun h15_ => ?_)
 refine c_seq rfl ?_
 refine r_ord (l := [0]) rfl (by kernel_rfl) (by kernel_rfl) ?_
 refine s_v rfl rfl rfl rfl (v_as rfl rfl) ?_
 refine s_end ?_
 refine q_seq ?_
 refine c_ret rfl ?_
 refine q_then_ret ?_
 refine q_block_ret ?_
 refine q_then_ret ?_
 refine q_then_ret ?_
 refine q_block_ret ?_
 refine q_then_ret ?_
 refine q_take [] rfl (by decide) ?_
 have hr_ : okR l (rd_T48 l (i : Int)) = false := by unfold okR; rw [show (rd_T48 l (i : Int)).f6.f3.any (fun k => !(onceL l (rd_T48 l (i : Int)) k)) = true from h15_]; simp
 have hb_ : okB l (rd_T48 l (i : Int)) = false := by unfold okB; rw [h8_, h9_, hr_]; rfl
 rw [rd48 hil] at hb_
 rw [show rangesM l = false from all_badG hil hb_] at hX
 exact q_post rfl (.cons rfl (.nil)) hX
 refine c_skip rfl ?_
 refine q_seq ?_
 refine c_seq rfl ?_
 refine r_ord (l := [0, 1, 2, 3, 4, 5, 6, 7]) rfl (by kernel_rfl) (by kernel_rfl) ?_
 refine s_v rfl rfl rfl rfl (v_mv rfl rfl) ?_
 refine s_v rfl rfl rfl rfl (v_len rfl rfl rfl Try.underlying44 rfl rfl) ?_
 refine s_v rfl rfl rfl rfl (v_fa rfl Try.underlying53 rfl SZ43 rfl) ?_
 refine s_v rfl rfl rfl rfl (v_fa rfl Try.underlying43 rfl SZ3 rfl) ?_
 refine s_v rfl rfl rfl rfl (v_ld 3 rfl Try.underlying3 rfl rfl rfl rfl) ?_
 refine s_v rfl rfl rfl rfl (v_max (x := .tmp 0) (y := .tmp 0) rfl rfl rfl) ?_
 refine s_v rfl rfl rfl rfl (v_ar rfl rfl rfl rfl) ?_
 refine s_v rfl rfl rfl rfl (v_as rfl rfl) ?_
 refine s_end ?_
 refine q_seq ?_
 refine c_seq rfl ?_
 refine r_ord (l := [0, 1, 2, 3, 4, 5]) rfl (by kernel_rfl) (by kernel_rfl) ?_
 refine s_v rfl rfl rfl rfl (v_ldr 1 rfl Try.underlying67 rfl rfl rfl rfl) ?_
 refine s_v rfl rfl rfl rfl (v_iaK (i := 2) rfl Try.underlying67 SZ35 rfl rfl rfl rfl (by decide) (by have := mapsL_len l (rd_T48 l (i : Int)) (ordL l).length; omega)) ?_
 refine s_e rfl rfl (e_ldKX z35 2 rfl rfl rfl Try.underlying35 rfl SZ35 rfl rfl rfl (by decide) (by have := mapsL_len l (rd_T48 l (i : Int)) (ordL l).length; omega)) ?_
 intro cs16_ h17_
 refine s_know 0 rfl (fun w h => k35_sh h) (fun h18_ => ?_)
 replace h18_ : ∃ A c, cs16_ = [.slice A (mapF l (rd_T48 l (i : Int)).f2 (ordL l)).length c] := h18_
 obtain ⟨A19_, c20_, rfl⟩ := h18_
 refine s_weak 0 rfl (fun w h => (show KC k56 A19_ c20_ (mapF l (rd_T48 l (i : Int)).f2 (ordL l)) w from k35_row h)) ?_
 refine s_e rfl rfl (e_callK (fun z : Option Addr × Nat => .slice z.1 ((mapF l (rd_T48 l (i : Int)).f2 (ordL l)).length) z.2) (fun z => [KC k56 z.1 z.2 (mapF l (rd_T48 l (i : Int)).f2 (ordL l))]) #[.agg #[.slice A19_ ((mapF l (rd_T48 l (i : Int)).f2 (ordL l)).length) c20_]] rfl rfl rfl rfl rfl Try.func17 rfl (by decide) rfl rfl (fun w ht => seq_Map_Pairs.con _ _ (mapF l (rd_T48 l (i : Int)).f2 (ordL l)) _ (pairs_f (mapF l (rd_T48 l (i : Int)).f2 (ordL l)) hml) w (Tri.fact ht 0 rfl))) ?_
 intro z21_
 refine s_v rfl rfl rfl rfl (v_len rfl rfl rfl Try.underlying33 rfl rfl) ?_
 refine s_v rfl rfl rfl rfl (v_mv rfl rfl) ?_
 refine s_end ?_
 refine q_seq ?_
 refine c_block rfl ?_
 have hris : risingB (rd_T48 l (i : Int)) = true := by simpa using h14_
 have hmis : (rd_T48 l (i : Int)).f6.f3.any (fun k => !(onceL l (rd_T48 l (i : Int)) k)) = false := h15_
 refine c_loop (σ := Nat) (fun j => j ≤ (mapF l (rd_T48 l (i : Int)).f2 (ordL l)).length ∧ ((mapF l (rd_T48 l (i : Int)).f2 (ordL l)).take j).all (fun p : S56 => !(pairBad l (rd_T48 l (i : Int)) p.f0)) = true) (fun j => (mapF l (rd_T48 l (i : Int)).f2 (ordL l)).length - j) (fun j => [(0, .slice A l.length c), (4, .pointer (some ⟨b7_, 0, none⟩)), (7, .func (.func 40) #[] #[.pointer (some ⟨b12_, 0, none⟩)]), (8, .slice A5_ ((rd_T48 l (i : Int)).f6.f3.length) c6_), (9, .bool (decide ((((rd_T48 l (i : Int)).f6.f3.length : Nat) : Int) ≥ (if (0 : Int) < ((rd_T48 l (i : Int)).f1.f3) then (rd_T48 l (i : Int)).f1.f3 else 0)))), (13, .slice A l.length c), (14, .int .i64 (l.length : Nat)), (15, .int .i64 (i : Int)), (53, .slice z21_.1 ((mapF l (rd_T48 l (i : Int)).f2 (ordL l)).length) z21_.2), (54, .int .i64 ((mapF l (rd_T48 l (i : Int)).f2 (ordL l)).length : Nat)), (55, .int .i64 (j : Int))]) (fun j => [.f (KC k56 z21_.1 z21_.2 (mapF l (rd_T48 l (i : Int)).f2 (ordL l))), .f (KC k56 A19_ c20_ (mapF l (rd_T48 l (i : Int)).f2 (ordL l))), .f (fun w => w.heap[b13_]? = some (.cells #[.func (.func 36) #[] #[.pointer (some ⟨b12_, 0, none⟩)]] 72 (0, 0))), .f (fun w => w.heap[b12_]? = some (.cells #[.slice A10_ ((mapsL l (rd_T48 l (i : Int)) (ordL l).length).length) c11_] 67 (0, 0))), .f (KC k35 A10_ c11_ (mapsL l (rd_T48 l (i : Int)) (ordL l).length)), .b b7_ (.cells #[.int .i64 ((rd_T48 l (i : Int)).f0), .int .i64 ((rd_T48 l (i : Int)).f1.f0), .int .u64 ((rd_T48 l (i : Int)).f1.f1), .int .u64 ((rd_T48 l (i : Int)).f1.f2), .int .i64 ((rd_T48 l (i : Int)).f1.f3), .int .i64 ((rd_T48 l (i : Int)).f1.f4), .int .i64 ((rd_T48 l (i : Int)).f2), .int .i64 ((rd_T48 l (i : Int)).f3), .int .i64 ((rd_T48 l (i : Int)).f4), .bool ((rd_T48 l (i : Int)).f5), .bool ((rd_T48 l (i : Int)).f6.f0), .bool ((rd_T48 l (i : Int)).f6.f1), .int .u64 ((rd_T48 l (i : Int)).f6.f2), .slice A5_ ((rd_T48 l (i : Int)).f6.f3.length) c6_] 53 (0, 0)), .f (KC (Kd.int .u64) A5_ c6_ ((rd_T48 l (i : Int)).f6.f3)), .f (KC k48 A c l)]) 0 [0, 1, 3, 4, 5, 6, 7, 9] rfl ⟨Nat.zero_le _, rfl⟩ (subF_spec ⟨rfl, rfl, rfl, rfl, rfl, rfl, rfl, rfl, rfl, rfl, rfl, trivial⟩) rfl (by decide) ?_
 rintro j hs
 have hs2 := hs
 have hj_ : j ≤ (mapF l (rd_T48 l (i : Int)).f2 (ordL l)).length := hs.1
 refine c_seq rfl ?_
 refine r_ord (l := [0]) rfl (by kernel_rfl) (by kernel_rfl) ?_
 refine s_v rfl rfl rfl rfl (v_ar rfl rfl rfl rfl) ?_
 refine s_end ?_
 refine q_seq ?_
 refine c_seq rfl ?_
 refine c_cond (t := decide (((j : Int) : Int) < ((mapF l (rd_T48 l (i : Int)).f2 (ordL l)).length : Nat))) rfl rfl (fun h22_ => ?_) (fun h22_ => ?_)
 have h22_d := of_decide_eq_true h22_
 have hjl : j < (mapF l (rd_T48 l (i : Int)).f2 (ordL l)).length := by omega
 refine c_skip rfl ?_
 refine q_seq ?_
 refine c_seq rfl ?_
 refine c_block rfl ?_
 refine c_seq rfl ?_
 refine r_ord (l := [0, 1, 2, 3]) rfl (by kernel_rfl) (by kernel_rfl) ?_
 refine s_v rfl rfl rfl rfl (v_iaK (i := 0) rfl Try.underlying33 SZ56 rfl rfl rfl rfl (by omega) (by omega)) ?_
 refine s_v rfl rfl rfl rfl (v_ldKA z56 [.int .u64 ((rd_T56 (mapF l (rd_T48 l (i : Int)).f2 (ordL l)) (j : Int)).f0), .int .u64 ((rd_T56 (mapF l (rd_T48 l (i : Int)).f2 (ordL l)) (j : Int)).f1)] 0 rfl Try.underlying56 rfl SZ56 rfl rfl rfl rfl (by omega) (by omega) (fun w K h => k56_open h)) ?_
 refine s_e rfl rfl (e_alloc rfl rfl rfl ZR56) ?_
 intro b23_
 refine s_e rfl rfl (e_stA 0 rfl rfl SZ56 rfl rfl rfl rfl rfl rfl) ?_
 refine s_end ?_
 refine q_seq ?_
 refine c_seq rfl ?_
 refine r_any [.b b23_ (.cells #[.int .u64 ((rd_T56 (mapF l (rd_T48 l (i : Int)).f2 (ordL l)) (j : Int)).f0), .int .u64 ((rd_T56 (mapF l (rd_T48 l (i : Int)).f2 (ordL l)) (j : Int)).f1)] 56 (0, 0)), .f (KC k56 z21_.1 z21_.2 (mapF l (rd_T48 l (i : Int)).f2 (ordL l))), .f (KC k56 A19_ c20_ (mapF l (rd_T48 l (i : Int)).f2 (ordL l))), .f (fun w => w.heap[b13_]? = some (.cells #[.func (.func 36) #[] #[.pointer (some ⟨b12_, 0, none⟩)]] 72 (0, 0))), .f (fun w => w.heap[b12_]? = some (.cells #[.slice A10_ ((mapsL l (rd_T48 l (i : Int)) (ordL l).length).length) c11_] 67 (0, 0))), .f (KC k35 A10_ c11_ (mapsL l (rd_T48 l (i : Int)) (ordL l).length)), .b b7_ (.cells #[.int .i64 ((rd_T48 l (i : Int)).f0), .int .i64 ((rd_T48 l (i : Int)).f1.f0), .int .u64 ((rd_T48 l (i : Int)).f1.f1), .int .u64 ((rd_T48 l (i : Int)).f1.f2), .int .i64 ((rd_T48 l (i : Int)).f1.f3), .int .i64 ((rd_T48 l (i : Int)).f1.f4), .int .i64 ((rd_T48 l (i : Int)).f2), .int .i64 ((rd_T48 l (i : Int)).f3), .int .i64 ((rd_T48 l (i : Int)).f4), .bool ((rd_T48 l (i : Int)).f5), .bool ((rd_T48 l (i : Int)).f6.f0), .bool ((rd_T48 l (i : Int)).f6.f1), .int .u64 ((rd_T48 l (i : Int)).f6.f2), .slice A5_ ((rd_T48 l (i : Int)).f6.f3.length) c6_] 53 (0, 0)), .f (KC (Kd.int .u64) A5_ c6_ ((rd_T48 l (i : Int)).f6.f3)), .f (KC k48 A c l)] (by kernel_rfl) rfl (by kernel_rfl) (mem_pick (idx := [0, 1, 2, 3, 4, 5, 6, 7, 8]) rfl) ?_
 refine a_v 0 rfl (by kernel_rfl) (by kernel_rfl) (by kernel_rfl) rfl rfl rfl (v_mv rfl rfl) ?_
 refine a_v 1 rfl (by kernel_rfl) (by kernel_rfl) (by kernel_rfl) rfl rfl rfl (v_mv rfl rfl) ?_
 refine a_splitv (d := 60) (t := decide ((((rd_T48 l (i : Int)).f6.f3.length : Nat) : Int) ≥ (if (0 : Int) < ((rd_T48 l (i : Int)).f1.f3) then (rd_T48 l (i : Int)).f1.f3 else 0))) rfl (fun h24_ => ?_) (fun h24_ => ?_)
 have h24_d := of_decide_eq_true h24_
 have h24_f : decide (((rd_T48 l (i : Int)).f6.f3.length : Int) ≥ mx 0 (rd_T48 l (i : Int)).f1.f3) = true := h24_
 refine a_v 2 rfl (by kernel_rfl) (by kernel_rfl) (by kernel_rfl) rfl rfl rfl (v_mv rfl rfl) ?_
 refine a_v 3 rfl (by kernel_rfl) (by kernel_rfl) (by kernel_rfl) rfl rfl rfl (v_len rfl rfl rfl Try.underlying44 rfl rfl) ?_
 refine a_v 4 rfl (by kernel_rfl) (by kernel_rfl) (by kernel_rfl) rfl rfl rfl (v_ar rfl rfl rfl rfl) ?_
 refine a_v 5 rfl (by kernel_rfl) (by kernel_rfl) (by kernel_rfl) rfl rfl rfl (v_mv rfl rfl) ?_
 refine a_splitv (d := 64) (t := (((rd_T48 l (i : Int)).f6.f3.length : Nat) : Int) == 0) rfl (fun h25_ => ?_) (fun h25_ => ?_)
 have h25_f : ((((rd_T48 l (i : Int)).f6.f3.length : Int)) == 0) = true := h25_
 have h25_d : ((rd_T48 l ((i : Nat) : Int)).f6.f3.length : Nat) = 0 := by simpa using h25_
 refine a_no 6 rfl (by kernel_rfl) (by kernel_rfl) (by kernel_rfl) rfl rfl rfl ?_
 refine a_no 7 rfl (by kernel_rfl) (by kernel_rfl) (by kernel_rfl) rfl rfl rfl ?_
 refine a_no 8 rfl (by kernel_rfl) (by kernel_rfl) (by kernel_rfl) rfl rfl rfl ?_
 refine a_no 9 rfl (by kernel_rfl) (by kernel_rfl) (by kernel_rfl) rfl rfl rfl ?_
 refine a_no 10 rfl (by kernel_rfl) (by kernel_rfl) (by kernel_rfl) rfl rfl rfl ?_
 refine a_no 11 rfl (by kernel_rfl) (by kernel_rfl) (by kernel_rfl) rfl rfl rfl ?_
 refine a_no 12 rfl (by kernel_rfl) (by kernel_rfl) (by kernel_rfl) rfl rfl rfl ?_
 refine a_no 13 rfl (by kernel_rfl) (by kernel_rfl) (by kernel_rfl) rfl rfl rfl ?_
 refine a_no 14 rfl (by kernel_rfl) (by kernel_rfl) (by kernel_rfl) rfl rfl rfl ?_
 refine a_v 15 rfl (by kernel_rfl) (by kernel_rfl) (by kernel_rfl) rfl rfl rfl (v_pick rfl rfl rfl rfl) ?_
 refine a_v 16 rfl (by kernel_rfl) (by kernel_rfl) (by kernel_rfl) rfl rfl rfl (v_pick rfl rfl rfl rfl) ?_
 refine a_v 17 rfl (by kernel_rfl) (by kernel_rfl) (by kernel_rfl) rfl rfl rfl (v_as rfl rfl) ?_
 refine a_end (by kernel_rfl) ?_
 refine q_seq ?_
 refine c_seq rfl ?_
 refine r_ord (l := [0, 1, 2, 3, 4, 5, 6, 7, 8, 9, 10, 11, 12, 13, 14, 15, 16, 17, 18, 19, 20, 21, 22, 23, 24, 25, 26, 27, 28, 29, 30]) rfl (by kernel_rfl) (by kernel_rfl) ?_
 refine s_v rfl rfl rfl rfl (v_fa rfl Try.underlying56 rfl SZ41 rfl) ?_
 refine s_v rfl rfl rfl rfl (v_ld 0 rfl Try.underlying41 rfl rfl rfl rfl) ?_
 refine s_v rfl rfl rfl rfl (v_fa rfl Try.underlying53 rfl SZ43 rfl) ?_
 refine s_v rfl rfl rfl rfl (v_fa rfl Try.underlying43 rfl SZ41 rfl) ?_
 refine s_v rfl rfl rfl rfl (v_ld 6 rfl Try.underlying41 rfl rfl rfl rfl) ?_
 refine s_v rfl rfl rfl rfl (v_ar rfl rfl rfl rfl) ?_
 refine s_v rfl rfl rfl rfl (v_mv rfl rfl) ?_
 refine s_splitv (d := 82) (t := decide (((rd_T56 (mapF l (rd_T48 l (i : Int)).f2 (ordL l)) (j : Int)).f0 : Int) ≥ ((rd_T48 l (i : Int)).f1.f1))) rfl (fun h26_ => ?_) (fun h26_ => ?_)
 have h26_d := of_decide_eq_true h26_
 refine s_vg rfl rfl rfl rfl (v_fa rfl Try.underlying56 rfl SZ41 rfl) ?_
 refine s_vg rfl rfl rfl rfl (v_ld 0 rfl Try.underlying41 rfl rfl rfl rfl) ?_
 refine s_vg rfl rfl rfl rfl (v_fa rfl Try.underlying53 rfl SZ43 rfl) ?_
 refine s_vg rfl rfl rfl rfl (v_fa rfl Try.underlying43 rfl SZ41 rfl) ?_
 refine s_vg rfl rfl rfl rfl (v_ld 6 rfl Try.underlying41 rfl rfl rfl rfl) ?_
 refine s_vg rfl rfl rfl rfl (v_ar rfl rfl rfl rfl) ?_
 refine s_v rfl rfl rfl rfl (v_pick rfl rfl rfl rfl) ?_
 refine s_v rfl rfl rfl rfl (v_mv rfl rfl) ?_
 refine s_splitv (d := 90) (t := decide (((rd_T56 (mapF l (rd_T48 l (i : Int)).f2 (ordL l)) (j : Int)).f0 : Int) ≤ ((rd_T48 l (i : Int)).f1.f2))) rfl (fun h27_ => ?_) (fun h27_ => ?_)
 have h27_d := of_decide_eq_true h27_
 refine s_vg rfl rfl rfl rfl (v_mv rfl rfl) ?_
 refine s_vg rfl rfl rfl rfl (v_fa rfl Try.underlying56 rfl SZ41 rfl) ?_
 refine s_vg rfl rfl rfl rfl (v_ld 0 rfl Try.underlying41 rfl rfl rfl rfl) ?_
 refine s_eg rfl rfl (e_callF [5, 4] #[.int .u64 ((rd_T56 (mapF l (rd_T48 l (i : Int)).f2 (ordL l)) (j : Int)).f0), .pointer (some ⟨b12_, 0, none⟩)] rfl rfl rfl rfl rfl Try.func40 rfl (by decide) rfl rfl rfl rfl (fun w ht => always_con b12_ A10_ c11_ (mapsL l (rd_T48 l (i : Int)) (ordL l).length) ((rd_T56 (mapF l (rd_T48 l (i : Int)).f2 (ordL l)) (j : Int)).f0) hMl hMS w _)) ?_
 refine s_v rfl rfl rfl rfl (v_pick rfl rfl rfl rfl) ?_
 refine s_v rfl rfl rfl rfl (v_mv rfl rfl) ?_
 refine s_splitv (d := 96) (t := !((mapsL l (rd_T48 l (i : Int)) (ordL l).length).any (fun x : S35 => !(getM x.f0 ((rd_T56 (mapF l (rd_T48 l (i : Int)).f2 (ordL l)) (j : Int)).f0)).2.1))) rfl (fun h28_ => ?_) (fun h28_ => ?_)
 have h28_f : alwaysL l (rd_T48 l (i : Int)) (rd_T56 (mapF l (rd_T48 l (i : Int)).f2 (ordL l)) (j : Int)).f0 = true := h28_
 refine s_vg rfl rfl rfl rfl (v_mv rfl rfl) ?_
 refine s_vg rfl rfl rfl rfl (v_not rfl rfl) ?_
 refine s_v rfl rfl rfl rfl (v_pick rfl rfl rfl rfl) ?_
 refine s_v rfl rfl rfl rfl (v_mv rfl rfl) ?_
 refine s_no rfl rfl rfl rfl ?_
 refine s_no rfl rfl rfl rfl ?_
 refine s_no rfl rfl rfl rfl ?_
 refine s_no rfl rfl rfl rfl ?_
 refine s_no rfl rfl rfl rfl ?_
 refine s_v rfl rfl rfl rfl (v_pick rfl rfl rfl rfl) ?_
 refine s_end ?_
 refine q_seq ?_
 refine c_cond0 rfl rfl ?_
 refine c_skip rfl ?_
 refine q_block ?_
 refine q_seq ?_
 refine r_ord (l := [0, 1]) rfl (by kernel_rfl) (by kernel_rfl) ?_
 refine s_v rfl rfl rfl rfl (OpV.cast (v := .int .i64 ((j + 1 : Nat) : Int)) (v_ar rfl rfl rfl rfl) (addN (a := j) (b := 1) (by omega))) ?_
 refine s_v rfl rfl rfl rfl (v_mv rfl rfl) ?_
 refine s_end ?_
 have hbey : beyondB (rd_T48 l (i : Int)) (rd_T56 (mapF l (rd_T48 l (i : Int)).f2 (ordL l)) (j : Int)).f0 = true := by unfold beyondB; rw [h24_f, h25_f]; rfl
 have hpb : pairBad l (rd_T48 l (i : Int)) (rd_T56 (mapF l (rd_T48 l (i : Int)).f2 (ordL l)) (j : Int)).f0 = false := by unfold pairBad; rw [h26_, h27_, h28_f, hbey]; simp
 rw [rd56' hjl] at hpb
 exact q_again (j + 1) [1, 2, 3, 4, 5, 6, 7, 8] ⟨by omega, all_nextG hjl hs2.2 (by rw [hpb]; rfl)⟩ (by show (mapF l (rd_T48 l (i : Int)).f2 (ordL l)).length - (j + 1) < (mapF l (rd_T48 l (i : Int)).f2 (ordL l)).length - j; omega) (subF_spec ⟨rfl, rfl, rfl, rfl, rfl, rfl, rfl, rfl, rfl, rfl, rfl, trivial⟩) rfl (by decide)
 have h28_f : alwaysL l (rd_T48 l (i : Int)) (rd_T56 (mapF l (rd_T48 l (i : Int)).f2 (ordL l)) (j : Int)).f0 = false := h28_
 refine s_no rfl rfl rfl rfl ?_
 refine s_no rfl rfl rfl rfl ?_
 refine s_v rfl rfl rfl rfl (v_pick rfl rfl rfl rfl) ?_
 refine s_v rfl rfl rfl rfl (v_mv rfl rfl) ?_
 refine s_no rfl rfl rfl rfl ?_
 refine s_no rfl rfl rfl rfl ?_
 refine s_no rfl rfl rfl rfl ?_
 refine s_no rfl rfl rfl rfl ?_
 refine s_no rfl rfl rfl rfl ?_
 refine s_v rfl rfl rfl rfl (v_pick rfl rfl rfl rfl) ?_
 refine s_end ?_
 refine q_seq ?_
 refine c_cond0 rfl rfl ?_
 refine c_skip rfl ?_
 refine q_block ?_
 refine q_seq ?_
 refine r_ord (l := [0, 1]) rfl (by kernel_rfl) (by kernel_rfl) ?_
 refine s_v rfl rfl rfl rfl (OpV.cast (v := .int .i64 ((j + 1 : Nat) : Int)) (v_ar rfl rfl rfl rfl) (addN (a := j) (b := 1) (by omega))) ?_
 refine s_v rfl rfl rfl rfl (v_mv rfl rfl) ?_
 refine s_end ?_
 have hpb : pairBad l (rd_T48 l (i : Int)) (rd_T56 (mapF l (rd_T48 l (i : Int)).f2 (ordL l)) (j : Int)).f0 = false := by unfold pairBad; rw [h26_, h27_, h28_f]; simp
 rw [rd56' hjl] at hpb
 exact q_again (j + 1) [1, 2, 3, 4, 5, 6, 7, 8] ⟨by omega, all_nextG hjl hs2.2 (by rw [hpb]; rfl)⟩ (by show (mapF l (rd_T48 l (i : Int)).f2 (ordL l)).length - (j + 1) < (mapF l (rd_T48 l (i : Int)).f2 (ordL l)).length - j; omega) (subF_spec ⟨rfl, rfl, rfl, rfl, rfl, rfl, rfl, rfl, rfl, rfl, rfl, trivial⟩) rfl (by decide)
 have h27_d := of_decide_eq_false h27_
 refine s_no rfl rfl rfl rfl ?_
 refine s_no rfl rfl rfl rfl ?_
 refine s_no rfl rfl rfl rfl ?_
 refine s_no rfl rfl rfl rfl ?_
 refine s_v rfl rfl rfl rfl (v_pick rfl rfl rfl rfl) ?_
 refine s_v rfl rfl rfl rfl (v_mv rfl rfl) ?_
 refine s_no rfl rfl rfl rfl ?_
 refine s_no rfl rfl rfl rfl ?_
 refine s_v rfl rfl rfl rfl (v_pick rfl rfl rfl rfl) ?_
 refine s_v rfl rfl rfl rfl (v_mv rfl rfl) ?_
 refine s_no rfl rfl rfl rfl ?_
 refine s_no rfl rfl rfl rfl ?_
 refine s_no rfl rfl rfl rfl ?_
 refine s_no rfl rfl rfl rfl ?_
 refine s_no rfl rfl rfl rfl ?_
 refine s_v rfl rfl rfl rfl (v_pick rfl rfl rfl rfl) ?_
 refine s_end ?_
 refine q_seq ?_
 refine c_cond0 rfl rfl ?_
 refine c_skip rfl ?_
 refine q_block ?_
 refine q_seq ?_
 refine r_ord (l := [0, 1]) rfl (by kernel_rfl) (by kernel_rfl) ?_
 refine s_v rfl rfl rfl rfl (OpV.cast (v := .int .i64 ((j + 1 : Nat) : Int)) (v_ar rfl rfl rfl rfl) (addN (a := j) (b := 1) (by omega))) ?_
 refine s_v rfl rfl rfl rfl (v_mv rfl rfl) ?_
 refine s_end ?_
 have hpb : pairBad l (rd_T48 l (i : Int)) (rd_T56 (mapF l (rd_T48 l (i : Int)).f2 (ordL l)) (j : Int)).f0 = false := by unfold pairBad; rw [h26_, h27_]; simp
 rw [rd56' hjl] at hpb
 exact q_again (j + 1) [1, 2, 3, 4, 5, 6, 7, 8] ⟨by omega, all_nextG hjl hs2.2 (by rw [hpb]; rfl)⟩ (by show (mapF l (rd_T48 l (i : Int)).f2 (ordL l)).length - (j + 1) < (mapF l (rd_T48 l (i : Int)).f2 (ordL l)).length - j; omega) (subF_spec ⟨rfl, rfl, rfl, rfl, rfl, rfl, rfl, rfl, rfl, rfl, rfl, trivial⟩) rfl (by decide)
 have h26_d := of_decide_eq_false h26_
 refine s_no rfl rfl rfl rfl ?_
 refine s_no rfl rfl rfl rfl ?_
 refine s_no rfl rfl rfl rfl ?_
 refine s_no rfl rfl rfl rfl ?_
 refine s_no rfl rfl rfl rfl ?_
 refine s_no rfl rfl rfl rfl ?_
 refine s_v rfl rfl rfl rfl (v_pick rfl rfl rfl rfl) ?_
 refine s_v rfl rfl rfl rfl (v_mv rfl rfl) ?_
 refine s_no rfl rfl rfl rfl ?_
 refine s_no rfl rfl rfl rfl ?_
 refine s_no rfl rfl rfl rfl ?_
 refine s_no rfl rfl rfl rfl ?_
 refine s_v rfl rfl rfl rfl (v_pick rfl rfl rfl rfl) ?_
 refine s_v rfl rfl rfl rfl (v_mv rfl rfl) ?_
 refine s_no rfl rfl rfl rfl ?_
 refine s_no rfl rfl rfl rfl ?_
 refine s_v rfl rfl rfl rfl (v_pick rfl rfl rfl rfl) ?_
 refine s_v rfl rfl rfl rfl (v_mv rfl rfl) ?_
 refine s_no rfl rfl rfl rfl ?_
 refine s_no rfl rfl rfl rfl ?_
 refine s_no rfl rfl rfl rfl ?_
 refine s_no rfl rfl rfl rfl ?_
 refine s_no rfl rfl rfl rfl ?_
 refine s_v rfl rfl rfl rfl (v_pick rfl rfl rfl rfl) ?_
 refine s_end ?_
 refine q_seq ?_
 refine c_cond0 rfl rfl ?_
 refine c_skip rfl ?_
 refine q_block ?_
 refine q_seq ?_
 refine r_ord (l := [0, 1]) rfl (by kernel_rfl) (by kernel_rfl) ?_
 refine s_v rfl rfl rfl rfl (OpV.cast (v := .int .i64 ((j + 1 : Nat) : Int)) (v_ar rfl rfl rfl rfl) (addN (a := j) (b := 1) (by omega))) ?_
 refine s_v rfl rfl rfl rfl (v_mv rfl rfl) ?_
 refine s_end ?_
 have hpb : pairBad l (rd_T48 l (i : Int)) (rd_T56 (mapF l (rd_T48 l (i : Int)).f2 (ordL l)) (j : Int)).f0 = false := by unfold pairBad; rw [h26_]; rfl
 rw [rd56' hjl] at hpb
 exact q_again (j + 1) [1, 2, 3, 4, 5, 6, 7, 8] ⟨by omega, all_nextG hjl hs2.2 (by rw [hpb]; rfl)⟩ (by show (mapF l (rd_T48 l (i : Int)).f2 (ordL l)).length - (j + 1) < (mapF l (rd_T48 l (i : Int)).f2 (ordL l)).length - j; omega) (subF_spec ⟨rfl, rfl, rfl, rfl, rfl, rfl, rfl, rfl, rfl, rfl, rfl, trivial⟩) rfl (by decide)
 have h25_f : ((((rd_T48 l (i : Int)).f6.f3.length : Int)) == 0) = false := h25_
 have h25_g : (rd_T48 l (i : Int)).f6.f3.length ≠ 0 := by have h_ := h25_f; simp at h_; intro h0; simp_all
 have h25_d : ((rd_T48 l ((i : Nat) : Int)).f6.f3.length : Nat) ≠ 0 := by simpa using h25_
 refine a_v 6 rfl (by kernel_rfl) (by kernel_rfl) (by kernel_rfl) rfl rfl rfl (v_fa rfl Try.underlying56 rfl SZ41 rfl) ?_
 refine a_v 7 rfl (by kernel_rfl) (by kernel_rfl) (by kernel_rfl) rfl rfl rfl (v_ld 0 rfl Try.underlying41 rfl rfl rfl rfl) ?_
 refine a_v 8 rfl (by kernel_rfl) (by kernel_rfl) (by kernel_rfl) rfl rfl rfl (v_mv rfl rfl) ?_
 refine a_v 9 rfl (by kernel_rfl) (by kernel_rfl) (by kernel_rfl) rfl rfl rfl (v_mv rfl rfl) ?_
 refine a_v 10 rfl (by kernel_rfl) (by kernel_rfl) (by kernel_rfl) rfl rfl rfl (v_len rfl rfl rfl Try.underlying44 rfl rfl) ?_
 refine a_v 11 rfl (by kernel_rfl) (by kernel_rfl) (by kernel_rfl) rfl rfl rfl (OpV.cast (v := .int .i64 ((((rd_T48 l (i : Int)).f6.f3.length) - 1 : Nat) : Int)) (v_ar rfl rfl rfl rfl) (subN (a := (rd_T48 l (i : Int)).f6.f3.length) (b := 1) (by omega) (by omega))) ?_
 refine a_v 12 rfl (by kernel_rfl) (by kernel_rfl) (by kernel_rfl) rfl rfl rfl (v_iaK (i := 7) rfl Try.underlying44 SZ41 rfl rfl rfl rfl (by omega) (by omega)) ?_
 refine a_v 13 rfl (by kernel_rfl) (by kernel_rfl) (by kernel_rfl) rfl rfl rfl (v_ldK (v := .int .u64 (rd ((rd_T48 l (i : Int)).f6.f3) ((((rd_T48 l (i : Int)).f6.f3.length) - 1 : Nat) : Int))) 0 7 rfl Try.underlying41 rfl rfl rfl rfl (by omega) (by omega) (fun w K h => h)) ?_
 refine a_v 14 rfl (by kernel_rfl) (by kernel_rfl) (by kernel_rfl) rfl rfl rfl (v_ar rfl rfl rfl rfl) ?_
 refine a_v 15 rfl (by kernel_rfl) (by kernel_rfl) (by kernel_rfl) rfl rfl rfl (v_pick rfl rfl rfl rfl) ?_
 refine a_v 16 rfl (by kernel_rfl) (by kernel_rfl) (by kernel_rfl) rfl rfl rfl (v_pick rfl rfl rfl rfl) ?_
 refine a_v 17 rfl (by kernel_rfl) (by kernel_rfl) (by kernel_rfl) rfl rfl rfl (v_as rfl rfl) ?_
 refine a_end (by kernel_rfl) ?_
 refine q_seq ?_
 refine c_seq rfl ?_
 refine r_ord (l := [0, 1, 2, 3, 4, 5, 6, 7, 8, 9, 10, 11, 12, 13, 14, 15, 16, 17, 18, 19, 20, 21, 22, 23, 24, 25, 26, 27, 28, 29, 30]) rfl (by kernel_rfl) (by kernel_rfl) ?_
 refine s_v rfl rfl rfl rfl (v_fa rfl Try.underlying56 rfl SZ41 rfl) ?_
 refine s_v rfl rfl rfl rfl (v_ld 0 rfl Try.underlying41 rfl rfl rfl rfl) ?_
 refine s_v rfl rfl rfl rfl (v_fa rfl Try.underlying53 rfl SZ43 rfl) ?_
 refine s_v rfl rfl rfl rfl (v_fa rfl Try.underlying43 rfl SZ41 rfl) ?_
 refine s_v rfl rfl rfl rfl (v_ld 6 rfl Try.underlying41 rfl rfl rfl rfl) ?_
 refine s_v rfl rfl rfl rfl (v_ar rfl rfl rfl rfl) ?_
 refine s_v rfl rfl rfl rfl (v_mv rfl rfl) ?_
 refine s_splitv (d := 82) (t := decide (((rd_T56 (mapF l (rd_T48 l (i : Int)).f2 (ordL l)) (j : Int)).f0 : Int) ≥ ((rd_T48 l (i : Int)).f1.f1))) rfl (fun h29_ => ?_) (fun h29_ => ?_)
 have h29_d := of_decide_eq_true h29_
 refine s_vg rfl rfl rfl rfl (v_fa rfl Try.underlying56 rfl SZ41 rfl) ?_
 refine s_vg rfl rfl rfl rfl (v_ld 0 rfl Try.underlying41 rfl rfl rfl rfl) ?_
 refine s_vg rfl rfl rfl rfl (v_fa rfl Try.underlying53 rfl SZ43 rfl) ?_
 refine s_vg rfl rfl rfl rfl (v_fa rfl Try.underlying43 rfl SZ41 rfl) ?_
 refine s_vg rfl rfl rfl rfl (v_ld 6 rfl Try.underlying41 rfl rfl rfl rfl) ?_
 refine s_vg rfl rfl rfl rfl (v_ar rfl rfl rfl rfl) ?_
 refine s_v rfl rfl rfl rfl (v_pick rfl rfl rfl rfl) ?_
 refine s_v rfl rfl rfl rfl (v_mv rfl rfl) ?_
 refine s_splitv (d := 90) (t := decide (((rd_T56 (mapF l (rd_T48 l (i : Int)).f2 (ordL l)) (j : Int)).f0 : Int) ≤ ((rd_T48 l (i : Int)).f1.f2))) rfl (fun h30_ => ?_) (fun h30_ => ?_)
 have h30_d := of_decide_eq_true h30_
 refine s_vg rfl rfl rfl rfl (v_mv rfl rfl) ?_
 refine s_vg rfl rfl rfl rfl (v_fa rfl Try.underlying56 rfl SZ41 rfl) ?_
 refine s_vg rfl rfl rfl rfl (v_ld 0 rfl Try.underlying41 rfl rfl rfl rfl) ?_
 refine s_eg rfl rfl (e_callF [5, 4] #[.int .u64 ((rd_T56 (mapF l (rd_T48 l (i : Int)).f2 (ordL l)) (j : Int)).f0), .pointer (some ⟨b12_, 0, none⟩)] rfl rfl rfl rfl rfl Try.func40 rfl (by decide) rfl rfl rfl rfl (fun w ht => always_con b12_ A10_ c11_ (mapsL l (rd_T48 l (i : Int)) (ordL l).length) ((rd_T56 (mapF l (rd_T48 l (i : Int)).f2 (ordL l)) (j : Int)).f0) hMl hMS w _)) ?_
 refine s_v rfl rfl rfl rfl (v_pick rfl rfl rfl rfl) ?_
 refine s_v rfl rfl rfl rfl (v_mv rfl rfl) ?_
 refine s_splitv (d := 96) (t := !((mapsL l (rd_T48 l (i : Int)) (ordL l).length).any (fun x : S35 => !(getM x.f0 ((rd_T56 (mapF l (rd_T48 l (i : Int)).f2 (ordL l)) (j : Int)).f0)).2.1))) rfl (fun h31_ => ?_) (fun h31_ => ?_)
 have h31_f : alwaysL l (rd_T48 l (i : Int)) (rd_T56 (mapF l (rd_T48 l (i : Int)).f2 (ordL l)) (j : Int)).f0 = true := h31_
 refine s_vg rfl rfl rfl rfl (v_mv rfl rfl) ?_
 refine s_vg rfl rfl rfl rfl (v_not rfl rfl) ?_
 refine s_v rfl rfl rfl rfl (v_pick rfl rfl rfl rfl) ?_
 refine s_v rfl rfl rfl rfl (v_mv rfl rfl) ?_
 refine s_splitv (d := 100) (t := !(decide (((rd_T56 (mapF l (rd_T48 l (i : Int)).f2 (ordL l)) (j : Int)).f0 : Int) > (rd ((rd_T48 l (i : Int)).f6.f3) ((((rd_T48 l (i : Int)).f6.f3.length) - 1 : Nat) : Int))))) rfl (fun h32_ => ?_) (fun h32_ => ?_)
 have h32_f : decide ((rd_T56 (mapF l (rd_T48 l (i : Int)).f2 (ordL l)) (j : Int)).f0 > rd (rd_T48 l (i : Int)).f6.f3 (((rd_T48 l (i : Int)).f6.f3.length : Int) - 1)) = false := by have h_ := h32_; rw [show (((rd_T48 l (i : Int)).f6.f3.length - 1 : Nat) : Int) = ((rd_T48 l (i : Int)).f6.f3.length : Int) - 1 by omega] at h_; simpa using h_
 refine s_vg rfl rfl rfl rfl (v_mv rfl rfl) ?_
 refine s_vg rfl rfl rfl rfl (v_fa rfl Try.underlying56 rfl SZ41 rfl) ?_
 refine s_vg rfl rfl rfl rfl (v_ld 0 rfl Try.underlying41 rfl rfl rfl rfl) ?_
 refine s_eg rfl rfl (e_callK (fun z : Unit => .bool (((rd_T48 l (i : Int)).f6.f3).contains ((rd_T56 (mapF l (rd_T48 l (i : Int)).f2 (ordL l)) (j : Int)).f0))) (fun z => []) #[.slice A5_ ((rd_T48 l (i : Int)).f6.f3.length) c6_, .int .u64 ((rd_T56 (mapF l (rd_T48 l (i : Int)).f2 (ordL l)) (j : Int)).f0)] rfl rfl rfl rfl rfl Try.func45 rfl (by decide) rfl rfl (fun w ht => slices_Contains_uint64_uint64.con 5000 _ _ ((rd_T48 l (i : Int)).f6.f3) ((rd_T56 (mapF l (rd_T48 l (i : Int)).f2 (ordL l)) (j : Int)).f0) _ (contains_f ((rd_T48 l (i : Int)).f6.f3) ((rd_T56 (mapF l (rd_T48 l (i : Int)).f2 (ordL l)) (j : Int)).f0) (by omega)) w (Tri.fact ht 7 rfl))) ?_
 intro z33_
 refine s_vg rfl rfl rfl rfl (v_not rfl rfl) ?_
 refine s_v rfl rfl rfl rfl (v_pick rfl rfl rfl rfl) ?_
 refine s_end ?_
 refine q_seq ?_
 refine c_cond (t := !(((rd_T48 l (i : Int)).f6.f3).contains ((rd_T56 (mapF l (rd_T48 l (i : Int)).f2 (ordL l)) (j : Int)).f0))) rfl rfl (fun h34_ => ?_) (fun h34_ => ?_)
 refine c_seq rfl ?_
 refine r_ord (l := [0]) rfl (by kernel_rfl) (by kernel_rfl) ?_
 refine s_v rfl rfl rfl rfl (v_as rfl rfl) ?_
 refine s_end ?_
 refine q_seq ?_
 refine c_ret rfl ?_
 refine q_block_ret ?_
 refine q_then_ret ?_
 refine q_then_ret ?_
 refine q_block_ret ?_
 refine q_block_ret ?_
 refine q_then_ret ?_
 refine q_then_ret ?_
 refine q_block_ret ?_
 refine q_then_ret ?_
 refine q_take [] rfl (by decide) ?_
 have hbey : beyondB (rd_T48 l (i : Int)) (rd_T56 (mapF l (rd_T48 l (i : Int)).f2 (ordL l)) (j : Int)).f0 = false := by unfold beyondB; rw [h24_f, h25_f, h32_f]; rfl
 have hpb : pairBad l (rd_T48 l (i : Int)) (rd_T56 (mapF l (rd_T48 l (i : Int)).f2 (ordL l)) (j : Int)).f0 = true := by unfold pairBad; rw [h29_, h30_, h31_f, hbey, (show (rd_T48 l (i : Int)).f6.f3.contains (rd_T56 (mapF l (rd_T48 l (i : Int)).f2 (ordL l)) (j : Int)).f0 = false by simpa using h34_)]; rfl
 have hr_ : okR l (rd_T48 l (i : Int)) = false := okR_bad5 hjl (by rw [rd56' hjl] at hpb; exact hpb)
 have hb_ : okB l (rd_T48 l (i : Int)) = false := by unfold okB; rw [h8_, h9_, hr_]; rfl
 rw [rd48 hil] at hb_
 rw [show rangesM l = false from all_badG hil hb_] at hX
 exact q_post rfl (.cons rfl (.nil)) hX
 refine c_skip rfl ?_
 refine q_block ?_
 refine q_seq ?_
 refine r_ord (l := [0, 1]) rfl (by kernel_rfl) (by kernel_rfl) ?_
 refine s_v rfl rfl rfl rfl (OpV.cast (v := .int .i64 ((j + 1 : Nat) : Int)) (v_ar rfl rfl rfl rfl) (addN (a := j) (b := 1) (by omega))) ?_
 refine s_v rfl rfl rfl rfl (v_mv rfl rfl) ?_
 refine s_end ?_
 have hbey : beyondB (rd_T48 l (i : Int)) (rd_T56 (mapF l (rd_T48 l (i : Int)).f2 (ordL l)) (j : Int)).f0 = false := by unfold beyondB; rw [h24_f, h25_f, h32_f]; rfl
 have hpb : pairBad l (rd_T48 l (i : Int)) (rd_T56 (mapF l (rd_T48 l (i : Int)).f2 (ordL l)) (j : Int)).f0 = false := by unfold pairBad; rw [h29_, h30_, h31_f, hbey, (show (rd_T48 l (i : Int)).f6.f3.contains (rd_T56 (mapF l (rd_T48 l (i : Int)).f2 (ordL l)) (j : Int)).f0 = true by simpa using h34_)]; simp
 rw [rd56' hjl] at hpb
 exact q_again (j + 1) [1, 2, 3, 4, 5, 6, 7, 8] ⟨by omega, all_nextG hjl hs2.2 (by rw [hpb]; rfl)⟩ (by show (mapF l (rd_T48 l (i : Int)).f2 (ordL l)).length - (j + 1) < (mapF l (rd_T48 l (i : Int)).f2 (ordL l)).length - j; omega) (subF_spec ⟨rfl, rfl, rfl, rfl, rfl, rfl, rfl, rfl, rfl, rfl, rfl, trivial⟩) rfl (by decide)
 have h32_d : ((rd_T56 (mapF l (rd_T48 l (i : Int)).f2 (ordL l)) ((j : Nat) : Int)).f0 : Int) > (rd ((rd_T48 l ((i : Nat) : Int)).f6.f3) ((((rd_T48 l ((i : Nat) : Int)).f6.f3.length) - 1 : Nat) : Int)) := by simpa using h32_
 have h32_f : decide ((rd_T56 (mapF l (rd_T48 l (i : Int)).f2 (ordL l)) (j : Int)).f0 > rd (rd_T48 l (i : Int)).f6.f3 (((rd_T48 l (i : Int)).f6.f3.length : Int) - 1)) = true := by have h_ := h32_; rw [show (((rd_T48 l (i : Int)).f6.f3.length - 1 : Nat) : Int) = ((rd_T48 l (i : Int)).f6.f3.length : Int) - 1 by omega] at h_; simpa using h_
 refine s_no rfl rfl rfl rfl ?_
 refine s_no rfl rfl rfl rfl ?_
 refine s_no rfl rfl rfl rfl ?_
 refine s_no rfl rfl rfl rfl ?_
 refine s_no rfl rfl rfl rfl ?_
 refine s_v rfl rfl rfl rfl (v_pick rfl rfl rfl rfl) ?_
 refine s_end ?_
 refine q_seq ?_
 refine c_cond0 rfl rfl ?_
 refine c_skip rfl ?_
 refine q_block ?_
 refine q_seq ?_
 refine r_ord (l := [0, 1]) rfl (by kernel_rfl) (by kernel_rfl) ?_
 refine s_v rfl rfl rfl rfl (OpV.cast (v := .int .i64 ((j + 1 : Nat) : Int)) (v_ar rfl rfl rfl rfl) (addN (a := j) (b := 1) (by omega))) ?_
 refine s_v rfl rfl rfl rfl (v_mv rfl rfl) ?_
 refine s_end ?_
 have hbey : beyondB (rd_T48 l (i : Int)) (rd_T56 (mapF l (rd_T48 l (i : Int)).f2 (ordL l)) (j : Int)).f0 = true := by unfold beyondB; rw [h24_f, h25_f, h32_f]; rfl
 have hpb : pairBad l (rd_T48 l (i : Int)) (rd_T56 (mapF l (rd_T48 l (i : Int)).f2 (ordL l)) (j : Int)).f0 = false := by unfold pairBad; rw [h29_, h30_, h31_f, hbey]; simp
 rw [rd56' hjl] at hpb
 exact q_again (j + 1) [1, 2, 3, 4, 5, 6, 7, 8] ⟨by omega, all_nextG hjl hs2.2 (by rw [hpb]; rfl)⟩ (by show (mapF l (rd_T48 l (i : Int)).f2 (ordL l)).length - (j + 1) < (mapF l (rd_T48 l (i : Int)).f2 (ordL l)).length - j; omega) (subF_spec ⟨rfl, rfl, rfl, rfl, rfl, rfl, rfl, rfl, rfl, rfl, rfl, trivial⟩) rfl (by decide)
 have h31_f : alwaysL l (rd_T48 l (i : Int)) (rd_T56 (mapF l (rd_T48 l (i : Int)).f2 (ordL l)) (j : Int)).f0 = false := h31_
 refine s_no rfl rfl rfl rfl ?_
 refine s_no rfl rfl rfl rfl ?_
 refine s_v rfl rfl rfl rfl (v_pick rfl rfl rfl rfl) ?_
 refine s_v rfl rfl rfl rfl (v_mv rfl rfl) ?_
 refine s_no rfl rfl rfl rfl ?_
 refine s_no rfl rfl rfl rfl ?_
 refine s_no rfl rfl rfl rfl ?_
 refine s_no rfl rfl rfl rfl ?_
 refine s_no rfl rfl rfl rfl ?_
 refine s_v rfl rfl rfl rfl (v_pick rfl rfl rfl rfl) ?_
 refine s_end ?_
 refine q_seq ?_
 refine c_cond0 rfl rfl ?_
 refine c_skip rfl ?_
 refine q_block ?_
 refine q_seq ?_
 refine r_ord (l := [0, 1]) rfl (by kernel_rfl) (by kernel_rfl) ?_
 refine s_v rfl rfl rfl rfl (OpV.cast (v := .int .i64 ((j + 1 : Nat) : Int)) (v_ar rfl rfl rfl rfl) (addN (a := j) (b := 1) (by omega))) ?_
 refine s_v rfl rfl rfl rfl (v_mv rfl rfl) ?_
 refine s_end ?_
 have hpb : pairBad l (rd_T48 l (i : Int)) (rd_T56 (mapF l (rd_T48 l (i : Int)).f2 (ordL l)) (j : Int)).f0 = false := by unfold pairBad; rw [h29_, h30_, h31_f]; simp
 rw [rd56' hjl] at hpb
 exact q_again (j + 1) [1, 2, 3, 4, 5, 6, 7, 8] ⟨by omega, all_nextG hjl hs2.2 (by rw [hpb]; rfl)⟩ (by show (mapF l (rd_T48 l (i : Int)).f2 (ordL l)).length - (j + 1) < (mapF l (rd_T48 l (i : Int)).f2 (ordL l)).length - j; omega) (subF_spec ⟨rfl, rfl, rfl, rfl, rfl, rfl, rfl, rfl, rfl, rfl, rfl, trivial⟩) rfl (by decide)
 have h30_d := of_decide_eq_false h30_
 refine s_no rfl rfl rfl rfl ?_
 refine s_no rfl rfl rfl rfl ?_
 refine s_no rfl rfl rfl rfl ?_
 refine s_no rfl rfl rfl rfl ?_
 refine s_v rfl rfl rfl rfl (v_pick rfl rfl rfl rfl) ?_
 refine s_v rfl rfl rfl rfl (v_mv rfl rfl) ?_
 refine s_no rfl rfl rfl rfl ?_
 refine s_no rfl rfl rfl rfl ?_
 refine s_v rfl rfl rfl rfl (v_pick rfl rfl rfl rfl) ?_
 refine s_v rfl rfl rfl rfl (v_mv rfl rfl) ?_
 refine s_no rfl rfl rfl rfl ?_
 refine s_no rfl rfl rfl rfl ?_
 refine s_no rfl rfl rfl rfl ?_
 refine s_no rfl rfl rfl rfl ?_
 refine s_no rfl rfl rfl rfl ?_
 refine s_v rfl rfl rfl rfl (v_pick rfl rfl rfl rfl) ?_
 refine s_end ?_
 refine q_seq ?_
 refine c_cond0 rfl rfl ?_
 refine c_skip rfl ?_
 refine q_block ?_
 refine q_seq ?_
 refine r_ord (l := [0, 1]) rfl (by kernel_rfl) (by kernel_rfl) ?_
 refine s_v rfl rfl rfl rfl (OpV.cast (v := .int .i64 ((j + 1 : Nat) : Int)) (v_ar rfl rfl rfl rfl) (addN (a := j) (b := 1) (by omega))) ?_
 refine s_v rfl rfl rfl rfl (v_mv rfl rfl) ?_
 refine s_end ?_
 have hpb : pairBad l (rd_T48 l (i : Int)) (rd_T56 (mapF l (rd_T48 l (i : Int)).f2 (ordL l)) (j : Int)).f0 = false := by unfold pairBad; rw [h29_, h30_]; simp
 rw [rd56' hjl] at hpb
 exact q_again (j + 1) [1, 2, 3, 4, 5, 6, 7, 8] ⟨by omega, all_nextG hjl hs2.2 (by rw [hpb]; rfl)⟩ (by show (mapF l (rd_T48 l (i : Int)).f2 (ordL l)).length - (j + 1) < (mapF l (rd_T48 l (i : Int)).f2 (ordL l)).length - j; omega) (subF_spec ⟨rfl, rfl, rfl, rfl, rfl, rfl, rfl, rfl, rfl, rfl, rfl, trivial⟩) rfl (by decide)
 have h29_d := of_decide_eq_false h29_
 refine s_no rfl rfl rfl rfl ?_
 refine s_no rfl rfl rfl rfl ?_
 refine s_no rfl rfl rfl rfl ?_
 refine s_no rfl rfl rfl rfl ?_
 refine s_no rfl rfl rfl rfl ?_
 refine s_no rfl rfl rfl rfl ?_
 refine s_v rfl rfl rfl rfl (v_pick rfl rfl rfl rfl) ?_
 refine s_v rfl rfl rfl rfl (v_mv rfl rfl) ?_
 refine s_no rfl rfl rfl rfl ?_
 refine s_no rfl rfl rfl rfl ?_
 refine s_no rfl rfl rfl rfl ?_
 refine s_no rfl rfl rfl rfl ?_
 refine s_v rfl rfl rfl rfl (v_pick rfl rfl rfl rfl) ?_
 refine s_v rfl rfl rfl rfl (v_mv rfl rfl) ?_
 refine s_no rfl rfl rfl rfl ?_
 refine s_no rfl rfl rfl rfl ?_
 refine s_v rfl rfl rfl rfl (v_pick rfl rfl rfl rfl) ?_
 refine s_v rfl rfl rfl rfl (v_mv rfl rfl) ?_
 refine s_no rfl rfl rfl rfl ?_
 refine s_no rfl rfl rfl rfl ?_
 refine s_no rfl rfl rfl rfl ?_
 refine s_no rfl rfl rfl rfl ?_
 refine s_no rfl rfl rfl rfl ?_
 refine s_v rfl rfl rfl rfl (v_pick rfl rfl rfl rfl) ?_
 refine s_end ?_
 refine q_seq ?_
 refine c_cond0 rfl rfl ?_
 refine c_skip rfl ?_
 refine q_block ?_
 refine q_seq ?_
 refine r_ord (l := [0, 1]) rfl (by kernel_rfl) (by kernel_rfl) ?_
 refine s_v rfl rfl rfl rfl (OpV.cast (v := .int .i64 ((j + 1 : Nat) : Int)) (v_ar rfl rfl rfl rfl) (addN (a := j) (b := 1) (by omega))) ?_
 refine s_v rfl rfl rfl rfl (v_mv rfl rfl) ?_
 refine s_end ?_
 have hpb : pairBad l (rd_T48 l (i : Int)) (rd_T56 (mapF l (rd_T48 l (i : Int)).f2 (ordL l)) (j : Int)).f0 = false := by unfold pairBad; rw [h29_]; rfl
 rw [rd56' hjl] at hpb
 exact q_again (j + 1) [1, 2, 3, 4, 5, 6, 7, 8] ⟨by omega, all_nextG hjl hs2.2 (by rw [hpb]; rfl)⟩ (by show (mapF l (rd_T48 l (i : Int)).f2 (ordL l)).length - (j + 1) < (mapF l (rd_T48 l (i : Int)).f2 (ordL l)).length - j; omega) (subF_spec ⟨rfl, rfl, rfl, rfl, rfl, rfl, rfl, rfl, rfl, rfl, rfl, trivial⟩) rfl (by decide)
 have h24_d := of_decide_eq_false h24_
 have h24_f : decide (((rd_T48 l (i : Int)).f6.f3.length : Int) ≥ mx 0 (rd_T48 l (i : Int)).f1.f3) = false := h24_
 refine a_no 2 rfl (by kernel_rfl) (by kernel_rfl) (by kernel_rfl) rfl rfl rfl ?_
 refine a_no 3 rfl (by kernel_rfl) (by kernel_rfl) (by kernel_rfl) rfl rfl rfl ?_
 refine a_no 4 rfl (by kernel_rfl) (by kernel_rfl) (by kernel_rfl) rfl rfl rfl ?_
 refine a_no 5 rfl (by kernel_rfl) (by kernel_rfl) (by kernel_rfl) rfl rfl rfl ?_
 refine a_no 6 rfl (by kernel_rfl) (by kernel_rfl) (by kernel_rfl) rfl rfl rfl ?_
 refine a_no 7 rfl (by kernel_rfl) (by kernel_rfl) (by kernel_rfl) rfl rfl rfl ?_
 refine a_no 8 rfl (by kernel_rfl) (by kernel_rfl) (by kernel_rfl) rfl rfl rfl ?_
 refine a_no 9 rfl (by kernel_rfl) (by kernel_rfl) (by kernel_rfl) rfl rfl rfl ?_
 refine a_no 10 rfl (by kernel_rfl) (by kernel_rfl) (by kernel_rfl) rfl rfl rfl ?_
 refine a_no 11 rfl (by kernel_rfl) (by kernel_rfl) (by kernel_rfl) rfl rfl rfl ?_
 refine a_no 12 rfl (by kernel_rfl) (by kernel_rfl) (by kernel_rfl) rfl rfl rfl ?_
 refine a_no 13 rfl (by kernel_rfl) (by kernel_rfl) (by kernel_rfl) rfl rfl rfl ?_
 refine a_no 14 rfl (by kernel_rfl) (by kernel_rfl) (by kernel_rfl) rfl rfl rfl ?_
 refine a_no 15 rfl (by kernel_rfl) (by kernel_rfl) (by kernel_rfl) rfl rfl rfl ?_
 refine a_v 16 rfl (by kernel_rfl) (by kernel_rfl) (by kernel_rfl) rfl rfl rfl (v_pick rfl rfl rfl rfl) ?_
 refine a_v 17 rfl (by kernel_rfl) (by kernel_rfl) (by kernel_rfl) rfl rfl rfl (v_as rfl rfl) ?_
 refine a_end (by kernel_rfl) ?_
 refine q_seq ?_
 refine c_seq rfl ?_
 refine r_ord (l := [0, 1, 2, 3, 4, 5, 6, 7, 8, 9, 10, 11, 12, 13, 14, 15, 16, 17, 18, 19, 20, 21, 22, 23, 24, 25, 26, 27, 28, 29, 30]) rfl (by kernel_rfl) (by kernel_rfl) ?_
 refine s_v rfl rfl rfl rfl (v_fa rfl Try.underlying56 rfl SZ41 rfl) ?_
 refine s_v rfl rfl rfl rfl (v_ld 0 rfl Try.underlying41 rfl rfl rfl rfl) ?_
 refine s_v rfl rfl rfl rfl (v_fa rfl Try.underlying53 rfl SZ43 rfl) ?_
 refine s_v rfl rfl rfl rfl (v_fa rfl Try.underlying43 rfl SZ41 rfl) ?_
 refine s_v rfl rfl rfl rfl (v_ld 6 rfl Try.underlying41 rfl rfl rfl rfl) ?_
 refine s_v rfl rfl rfl rfl (v_ar rfl rfl rfl rfl) ?_
 refine s_v rfl rfl rfl rfl (v_mv rfl rfl) ?_
 refine s_splitv (d := 82) (t := decide (((rd_T56 (mapF l (rd_T48 l (i : Int)).f2 (ordL l)) (j : Int)).f0 : Int) ≥ ((rd_T48 l (i : Int)).f1.f1))) rfl (fun h35_ => ?_) (fun h35_ => ?_)
 have h35_d := of_decide_eq_true h35_
 refine s_vg rfl rfl rfl rfl (v_fa rfl Try.underlying56 rfl SZ41 rfl) ?_
 refine s_vg rfl rfl rfl rfl (v_ld 0 rfl Try.underlying41 rfl rfl rfl rfl) ?_
 refine s_vg rfl rfl rfl rfl (v_fa rfl Try.underlying53 rfl SZ43 rfl) ?_
 refine s_vg rfl rfl rfl rfl (v_fa rfl Try.underlying43 rfl SZ41 rfl) ?_
 refine s_vg rfl rfl rfl rfl (v_ld 6 rfl Try.underlying41 rfl rfl rfl rfl) ?_
 refine s_vg rfl rfl rfl rfl (v_ar rfl rfl rfl rfl) ?_
 refine s_v rfl rfl rfl rfl (v_pick rfl rfl rfl rfl) ?_
 refine s_v rfl rfl rfl rfl (v_mv rfl rfl) ?_
 refine s_splitv (d := 90) (t := decide (((rd_T56 (mapF l (rd_T48 l (i : Int)).f2 (ordL l)) (j : Int)).f0 : Int) ≤ ((rd_T48 l (i : Int)).f1.f2))) rfl (fun h36_ => ?_) (fun h36_ => ?_)
 have h36_d := of_decide_eq_true h36_
 refine s_vg rfl rfl rfl rfl (v_mv rfl rfl) ?_
 refine s_vg rfl rfl rfl rfl (v_fa rfl Try.underlying56 rfl SZ41 rfl) ?_
 refine s_vg rfl rfl rfl rfl (v_ld 0 rfl Try.underlying41 rfl rfl rfl rfl) ?_
 refine s_eg rfl rfl (e_callF [5, 4] #[.int .u64 ((rd_T56 (mapF l (rd_T48 l (i : Int)).f2 (ordL l)) (j : Int)).f0), .pointer (some ⟨b12_, 0, none⟩)] rfl rfl rfl rfl rfl Try.func40 rfl (by decide) rfl rfl rfl rfl (fun w ht => always_con b12_ A10_ c11_ (mapsL l (rd_T48 l (i : Int)) (ordL l).length) ((rd_T56 (mapF l (rd_T48 l (i : Int)).f2 (ordL l)) (j : Int)).f0) hMl hMS w _)) ?_
 refine s_v rfl rfl rfl rfl (v_pick rfl rfl rfl rfl) ?_
 refine s_v rfl rfl rfl rfl (v_mv rfl rfl) ?_
 refine s_splitv (d := 96) (t := !((mapsL l (rd_T48 l (i : Int)) (ordL l).length).any (fun x : S35 => !(getM x.f0 ((rd_T56 (mapF l (rd_T48 l (i : Int)).f2 (ordL l)) (j : Int)).f0)).2.1))) rfl (fun h37_ => ?_) (fun h37_ => ?_)
 have h37_f : alwaysL l (rd_T48 l (i : Int)) (rd_T56 (mapF l (rd_T48 l (i : Int)).f2 (ordL l)) (j : Int)).f0 = true := h37_
 refine s_vg rfl rfl rfl rfl (v_mv rfl rfl) ?_
 refine s_vg rfl rfl rfl rfl (v_not rfl rfl) ?_
 refine s_v rfl rfl rfl rfl (v_pick rfl rfl rfl rfl) ?_
 refine s_v rfl rfl rfl rfl (v_mv rfl rfl) ?_
 refine s_vg rfl rfl rfl rfl (v_mv rfl rfl) ?_
 refine s_vg rfl rfl rfl rfl (v_fa rfl Try.underlying56 rfl SZ41 rfl) ?_
 refine s_vg rfl rfl rfl rfl (v_ld 0 rfl Try.underlying41 rfl rfl rfl rfl) ?_
 refine s_eg rfl rfl (e_callK (fun z : Unit => .bool (((rd_T48 l (i : Int)).f6.f3).contains ((rd_T56 (mapF l (rd_T48 l (i : Int)).f2 (ordL l)) (j : Int)).f0))) (fun z => []) #[.slice A5_ ((rd_T48 l (i : Int)).f6.f3.length) c6_, .int .u64 ((rd_T56 (mapF l (rd_T48 l (i : Int)).f2 (ordL l)) (j : Int)).f0)] rfl rfl rfl rfl rfl Try.func45 rfl (by decide) rfl rfl (fun w ht => slices_Contains_uint64_uint64.con 5000 _ _ ((rd_T48 l (i : Int)).f6.f3) ((rd_T56 (mapF l (rd_T48 l (i : Int)).f2 (ordL l)) (j : Int)).f0) _ (contains_f ((rd_T48 l (i : Int)).f6.f3) ((rd_T56 (mapF l (rd_T48 l (i : Int)).f2 (ordL l)) (j : Int)).f0) (by omega)) w (Tri.fact ht 7 rfl))) ?_
 intro z38_
 refine s_vg rfl rfl rfl rfl (v_not rfl rfl) ?_
 refine s_v rfl rfl rfl rfl (v_pick rfl rfl rfl rfl) ?_
 refine s_end ?_
 refine q_seq ?_
 refine c_cond (t := !(((rd_T48 l (i : Int)).f6.f3).contains ((rd_T56 (mapF l (rd_T48 l (i : Int)).f2 (ordL l)) (j : Int)).f0))) rfl rfl (fun h39_ => ?_) (fun h39_ => ?_)
 refine c_seq rfl ?_
 refine r_ord (l := [0]) rfl (by kernel_rfl) (by kernel_rfl) ?_
 refine s_v rfl rfl rfl rfl (v_as rfl rfl) ?_
 refine s_end ?_
 refine q_seq ?_
 refine c_ret rfl ?_
 refine q_block_ret ?_
 refine q_then_ret ?_
 refine q_then_ret ?_
 refine q_block_ret ?_
 refine q_block_ret ?_
 refine q_then_ret ?_
 refine q_then_ret ?_
 refine q_block_ret ?_
 refine q_then_ret ?_
 refine q_take [] rfl (by decide) ?_
 have hbey : beyondB (rd_T48 l (i : Int)) (rd_T56 (mapF l (rd_T48 l (i : Int)).f2 (ordL l)) (j : Int)).f0 = false := by unfold beyondB; rw [h24_f]; rfl
 have hpb : pairBad l (rd_T48 l (i : Int)) (rd_T56 (mapF l (rd_T48 l (i : Int)).f2 (ordL l)) (j : Int)).f0 = true := by unfold pairBad; rw [h35_, h36_, h37_f, hbey, (show (rd_T48 l (i : Int)).f6.f3.contains (rd_T56 (mapF l (rd_T48 l (i : Int)).f2 (ordL l)) (j : Int)).f0 = false by simpa using h39_)]; rfl
 have hr_ : okR l (rd_T48 l (i : Int)) = false := okR_bad5 hjl (by rw [rd56' hjl] at hpb; exact hpb)
 have hb_ : okB l (rd_T48 l (i : Int)) = false := by unfold okB; rw [h8_, h9_, hr_]; rfl
 rw [rd48 hil] at hb_
 rw [show rangesM l = false from all_badG hil hb_] at hX
 exact q_post rfl (.cons rfl (.nil)) hX
 refine c_skip rfl ?_
 refine q_block ?_
 refine q_seq ?_
 refine r_ord (l := [0, 1]) rfl (by kernel_rfl) (by kernel_rfl) ?_
 refine s_v rfl rfl rfl rfl (OpV.cast (v := .int .i64 ((j + 1 : Nat) : Int)) (v_ar rfl rfl rfl rfl) (addN (a := j) (b := 1) (by omega))) ?_
 refine s_v rfl rfl rfl rfl (v_mv rfl rfl) ?_
 refine s_end ?_
 have hbey : beyondB (rd_T48 l (i : Int)) (rd_T56 (mapF l (rd_T48 l (i : Int)).f2 (ordL l)) (j : Int)).f0 = false := by unfold beyondB; rw [h24_f]; rfl
 have hpb : pairBad l (rd_T48 l (i : Int)) (rd_T56 (mapF l (rd_T48 l (i : Int)).f2 (ordL l)) (j : Int)).f0 = false := by unfold pairBad; rw [h35_, h36_, h37_f, hbey, (show (rd_T48 l (i : Int)).f6.f3.contains (rd_T56 (mapF l (rd_T48 l (i : Int)).f2 (ordL l)) (j : Int)).f0 = true by simpa using h39_)]; simp
 rw [rd56' hjl] at hpb
 exact q_again (j + 1) [1, 2, 3, 4, 5, 6, 7, 8] ⟨by omega, all_nextG hjl hs2.2 (by rw [hpb]; rfl)⟩ (by show (mapF l (rd_T48 l (i : Int)).f2 (ordL l)).length - (j + 1) < (mapF l (rd_T48 l (i : Int)).f2 (ordL l)).length - j; omega) (subF_spec ⟨rfl, rfl, rfl, rfl, rfl, rfl, rfl, rfl, rfl, rfl, rfl, trivial⟩) rfl (by decide)
 have h37_f : alwaysL l (rd_T48 l (i : Int)) (rd_T56 (mapF l (rd_T48 l (i : Int)).f2 (ordL l)) (j : Int)).f0 = false := h37_
 refine s_no rfl rfl rfl rfl ?_
 refine s_no rfl rfl rfl rfl ?_
 refine s_v rfl rfl rfl rfl (v_pick rfl rfl rfl rfl) ?_
 refine s_v rfl rfl rfl rfl (v_mv rfl rfl) ?_
 refine s_no rfl rfl rfl rfl ?_
 refine s_no rfl rfl rfl rfl ?_
 refine s_no rfl rfl rfl rfl ?_
 refine s_no rfl rfl rfl rfl ?_
 refine s_no rfl rfl rfl rfl ?_
 refine s_v rfl rfl rfl rfl (v_pick rfl rfl rfl rfl) ?_
 refine s_end ?_
 refine q_seq ?_
 refine c_cond0 rfl rfl ?_
 refine c_skip rfl ?_
 refine q_block ?_
 refine q_seq ?_
 refine r_ord (l := [0, 1]) rfl (by kernel_rfl) (by kernel_rfl) ?_
 refine s_v rfl rfl rfl rfl (OpV.cast (v := .int .i64 ((j + 1 : Nat) : Int)) (v_ar rfl rfl rfl rfl) (addN (a := j) (b := 1) (by omega))) ?_
 refine s_v rfl rfl rfl rfl (v_mv rfl rfl) ?_
 refine s_end ?_
 have hpb : pairBad l (rd_T48 l (i : Int)) (rd_T56 (mapF l (rd_T48 l (i : Int)).f2 (ordL l)) (j : Int)).f0 = false := by unfold pairBad; rw [h35_, h36_, h37_f]; simp
 rw [rd56' hjl] at hpb
 exact q_again (j + 1) [1, 2, 3, 4, 5, 6, 7, 8] ⟨by omega, all_nextG hjl hs2.2 (by rw [hpb]; rfl)⟩ (by show (mapF l (rd_T48 l (i : Int)).f2 (ordL l)).length - (j + 1) < (mapF l (rd_T48 l (i : Int)).f2 (ordL l)).length - j; omega) (subF_spec ⟨rfl, rfl, rfl, rfl, rfl, rfl, rfl, rfl, rfl, rfl, rfl, trivial⟩) rfl (by decide)
 have h36_d := of_decide_eq_false h36_
 refine s_no rfl rfl rfl rfl ?_
 refine s_no rfl rfl rfl rfl ?_
 refine s_no rfl rfl rfl rfl ?_
 refine s_no rfl rfl rfl rfl ?_
 refine s_v rfl rfl rfl rfl (v_pick rfl rfl rfl rfl) ?_
 refine s_v rfl rfl rfl rfl (v_mv rfl rfl) ?_
 refine s_no rfl rfl rfl rfl ?_
 refine s_no rfl rfl rfl rfl ?_
 refine s_v rfl rfl rfl rfl (v_pick rfl rfl rfl rfl) ?_
 refine s_v rfl rfl rfl rfl (v_mv rfl rfl) ?_
 refine s_no rfl rfl rfl rfl ?_
 refine s_no rfl rfl rfl rfl ?_
 refine s_no rfl rfl rfl rfl ?_
 refine s_no rfl rfl rfl rfl ?_
 refine s_no rfl rfl rfl rfl ?_
 refine s_v rfl rfl rfl rfl (v_pick rfl rfl rfl rfl) ?_
 refine s_end ?_
 refine q_seq ?_
 refine c_cond0 rfl rfl ?_
 refine c_skip rfl ?_
 refine q_block ?_
 refine q_seq ?_
 refine r_ord (l := [0, 1]) rfl (by kernel_rfl) (by kernel_rfl) ?_
 refine s_v rfl rfl rfl rfl (OpV.cast (v := .int .i64 ((j + 1 : Nat) : Int)) (v_ar rfl rfl rfl rfl) (addN (a := j) (b := 1) (by omega))) ?_
 refine s_v rfl rfl rfl rfl (v_mv rfl rfl) ?_
 refine s_end ?_
 have hpb : pairBad l (rd_T48 l (i : Int)) (rd_T56 (mapF l (rd_T48 l (i : Int)).f2 (ordL l)) (j : Int)).f0 = false := by unfold pairBad; rw [h35_, h36_]; simp
 rw [rd56' hjl] at hpb
 exact q_again (j + 1) [1, 2, 3, 4, 5, 6, 7, 8] ⟨by omega, all_nextG hjl hs2.2 (by rw [hpb]; rfl)⟩ (by show (mapF l (rd_T48 l (i : Int)).f2 (ordL l)).length - (j + 1) < (mapF l (rd_T48 l (i : Int)).f2 (ordL l)).length - j; omega) (subF_spec ⟨rfl, rfl, rfl, rfl, rfl, rfl, rfl, rfl, rfl, rfl, rfl, trivial⟩) rfl (by decide)
 have h35_d := of_decide_eq_false h35_
 refine s_no rfl rfl rfl rfl ?_
 refine s_no rfl rfl rfl rfl ?_
 refine s_no rfl rfl rfl rfl ?_
 refine s_no rfl rfl rfl rfl ?_
 refine s_no rfl rfl rfl rfl ?_
 refine s_no rfl rfl rfl rfl ?_
 refine s_v rfl rfl rfl rfl (v_pick rfl rfl rfl rfl) ?_
 refine s_v rfl rfl rfl rfl (v_mv rfl rfl) ?_
 refine s_no rfl rfl rfl rfl ?_
 refine s_no rfl rfl rfl rfl ?_
 refine s_no rfl rfl rfl rfl ?_
 refine s_no rfl rfl rfl rfl ?_
 refine s_v rfl rfl rfl rfl (v_pick rfl rfl rfl rfl) ?_
 refine s_v rfl rfl rfl rfl (v_mv rfl rfl) ?_
 refine s_no rfl rfl rfl rfl ?_
 refine s_no rfl rfl rfl rfl ?_
 refine s_v rfl rfl rfl rfl (v_pick rfl rfl rfl rfl) ?_
 refine s_v rfl rfl rfl rfl (v_mv rfl rfl) ?_
 refine s_no rfl rfl rfl rfl ?_
 refine s_no rfl rfl rfl rfl ?_
 refine s_no rfl rfl rfl rfl ?_
 refine s_no rfl rfl rfl rfl ?_
 refine s_no rfl rfl rfl rfl ?_
 refine s_v rfl rfl rfl rfl (v_pick rfl rfl rfl rfl) ?_
 refine s_end ?_
 refine q_seq ?_
 refine c_cond0 rfl rfl ?_
 refine c_skip rfl ?_
 refine q_block ?_
 refine q_seq ?_
 refine r_ord (l := [0, 1]) rfl (by kernel_rfl) (by kernel_rfl) ?_
 refine s_v rfl rfl rfl rfl (OpV.cast (v := .int .i64 ((j + 1 : Nat) : Int)) (v_ar rfl rfl rfl rfl) (addN (a := j) (b := 1) (by omega))) ?_
 refine s_v rfl rfl rfl rfl (v_mv rfl rfl) ?_
 refine s_end ?_
 have hpb : pairBad l (rd_T48 l (i : Int)) (rd_T56 (mapF l (rd_T48 l (i : Int)).f2 (ordL l)) (j : Int)).f0 = false := by unfold pairBad; rw [h35_]; rfl
 rw [rd56' hjl] at hpb
 exact q_again (j + 1) [1, 2, 3, 4, 5, 6, 7, 8] ⟨by omega, all_nextG hjl hs2.2 (by rw [hpb]; rfl)⟩ (by show (mapF l (rd_T48 l (i : Int)).f2 (ordL l)).length - (j + 1) < (mapF l (rd_T48 l (i : Int)).f2 (ordL l)).length - j; omega) (subF_spec ⟨rfl, rfl, rfl, rfl, rfl, rfl, rfl, rfl, rfl, rfl, rfl, trivial⟩) rfl (by decide)
 have h22_d := of_decide_eq_false h22_
 have hokR : okR l (rd_T48 l (i : Int)) = true := by unfold okR; rw [hris, hmis, all_endG (i := j) (by omega) hs2.2]; rfl
 refine c_exit (i := 2) rfl rfl ?_
 refine q_then_exit ?_
 refine q_then_exit ?_
 refine q_block_here rfl ?_
 refine q_block ?_
 refine q_seq ?_
 refine r_ord (l := [0, 1]) rfl (by kernel_rfl) (by kernel_rfl) ?_
 refine s_v rfl rfl rfl rfl (OpV.cast (v := .int .i64 ((i + 1 : Nat) : Int)) (v_ar rfl rfl rfl rfl) (addN (a := i) (b := 1) (by omega))) ?_
 refine s_v rfl rfl rfl rfl (v_mv rfl rfl) ?_
 refine s_end ?_
 have hok : okB l (rd_T48 l (i : Int)) = true := by unfold okB; rw [h8_, h9_, hokR]; rfl
 rw [rd48 hil] at hok
 exact q_again (i + 1) [7] ⟨by omega, all_nextG hil hso hok⟩ (by show l.length - (i + 1) < l.length - i; omega) (subF_spec ⟨rfl, rfl, rfl, rfl, trivial⟩) rfl (by decide)
 have h1_d := of_decide_eq_false h1_
 have hend : rangesM l = true := all_endG (i := i) (by omega) hso
 refine c_exit (i := 0) rfl rfl ?_
 refine q_then_exit ?_
 refine q_then_exit ?_
 refine q_block_here rfl ?_
 refine q_seq ?_
 refine c_seq rfl ?_
 refine r_ord (l := [0]) rfl (by kernel_rfl) (by kernel_rfl) ?_
 refine s_v rfl rfl rfl rfl (v_as rfl rfl) ?_
 refine s_end ?_
 refine q_seq ?_
 refine c_ret rfl ?_
 refine q_take [] rfl (by decide) ?_
 rw [hend] at hX
 exact q_post rfl (.cons rfl (.nil)) hX
end Go.Eng
namespace Go.Eng
open Go.Proofs Go.RowKit Go.Proofs.YtiihjijmmephlaaW.PrintWords Go.Proofs.Ytiihjijmmephlaa.GHist
set_option linter.unusedVariables false
set_option linter.unusedSimpArgs false
theorem mapF_len {l : List S48} (hl : l.length ≤ 80) (t : Int) : (mapF l t (ordL l)).length ≤ 1000 := by
  have h1 := mapF_facts l t (ordL l)
  have h2 := ordL_len l
  omega
theorem any_noneI {l : List Int} {i : Nat} {p : Int → Bool} (h : l.length ≤ i) (ha : (l.take i).any p = false) : l.any p = false := by
  rwa [List.take_of_length_le h] at ha
theorem anyI_next' {l : List Int} {i : Nat} {p : Int → Bool} (h : i < l.length) (ha : (l.take i).any p = false) (ht : p (rd l (i : Int)) = false) : (l.take (i + 1)).any p = false := anyI_next h ha ht
set_option maxRecDepth 100000 in
set_option maxHeartbeats 4000000 in
theorem times_con (A : Option Addr) (c : Nat) (l : List S48) (x : S48) (AE : Option Addr) (cE : Nat) (hl : l.length ≤ 40) (w0 : World) (H : List Nat) : Con Try.prog 60 #[.slice A l.length c, .agg #[.int .i64 x.f0, .int .i64 x.f1.f0, .int .u64 x.f1.f1, .int .u64 x.f1.f2, .int .i64 x.f1.f3, .int .i64 x.f1.f4, .int .i64 x.f2, .int .i64 x.f3, .int .i64 x.f4, .bool x.f5, .bool x.f6.f0, .bool x.f6.f1, .int .u64 x.f6.f2, .slice AE x.f6.f3.length cE]] w0 H [.f (KC k48 A c l)] (fun X => ∀ A1 c1, X (.slice A1 (timesL l x l.length).length c1) [.f (KC (Kd.int .i64) A1 c1 (timesL l x l.length))]) := by
 refine con_enter (c := bodyOf Try.f60) Try.func60 rfl (m := 50) rfl rfl rfl ?_
 intro X hX _
 refine c_seq rfl ?_
 refine r_ord (l := [0, 1]) rfl (by kernel_rfl) (by kernel_rfl) ?_
 refine s_e rfl rfl (e_box rfl rfl rfl rfl) ?_
 intro b1_
 refine s_v rfl rfl rfl rfl (v_as rfl rfl) ?_
 refine s_end ?_
 refine q_seq ?_
 refine c_seq rfl ?_
 refine r_ord (l := [0, 1, 2, 3]) rfl (by kernel_rfl) (by kernel_rfl) ?_
 refine s_v rfl rfl rfl rfl (v_fa rfl Try.underlying48 rfl SZ3 rfl) ?_
 refine s_v rfl rfl rfl rfl (v_ld 0 rfl Try.underlying3 rfl rfl rfl rfl) ?_
 refine s_e rfl rfl (e_bslice #[.int .i64 x.f2] (.int .i64 0) rfl rfl rfl Try.underlying25 SZ3 ZR3 (by decide) rfl (by kernel_rfl)) ?_
 intro b2_
 refine s_v rfl rfl rfl rfl (v_as rfl rfl) ?_
 refine s_end ?_
 refine q_seq ?_
 refine c_seq rfl ?_
 refine c_seq rfl ?_
 refine r_ord (l := [0]) rfl (by kernel_rfl) (by kernel_rfl) ?_
 refine s_v rfl rfl rfl rfl (v_as rfl rfl) ?_
 refine s_end ?_
 refine q_seq ?_
 refine c_block rfl ?_
 refine c_loop (σ := (Nat × Nat × Nat × Nat × Array Value)) (fun s : (Nat × Nat × Nat × Nat × Array Value) => match s with | (j, n, g, cap, cur) => j ≤ l.length ∧ n = (timesL l x j).length ∧ 0 < n ∧ n ≤ cap ∧ cap ≤ maxLen ∧ cur.size = cap * 1 ∧ cur.toList.take (n * 1) = (timesL l x j).map (Value.int .i64)) (fun s : (Nat × Nat × Nat × Nat × Array Value) => match s with | (j, n, g, cap, cur) => l.length - j) (fun s : (Nat × Nat × Nat × Nat × Array Value) => match s with | (j, n, g, cap, cur) => [(0, .slice A l.length c), (3, .pointer (some ⟨b1_, 0, none⟩)), (6, .int .i64 (j : Int)), (5, .slice (some ⟨g, 0, none⟩) n cap)]) (fun s : (Nat × Nat × Nat × Nat × Array Value) => match s with | (j, n, g, cap, cur) => [.b b1_ (.cells #[.int .i64 x.f0, .int .i64 x.f1.f0, .int .u64 x.f1.f1, .int .u64 x.f1.f2, .int .i64 x.f1.f3, .int .i64 x.f1.f4, .int .i64 x.f2, .int .i64 x.f3, .int .i64 x.f4, .bool x.f5, .bool x.f6.f0, .bool x.f6.f1, .int .u64 x.f6.f2, .slice AE x.f6.f3.length cE] 48 (0, 0)), .b g (.cells cur 3 (0, 0)), .f (KC k48 A c l)]) (0, 1, b2_, 1, #[.int .i64 x.f2]) [1, 0, 2] rfl ⟨Nat.zero_le _, rfl, by omega, by omega, by decide, rfl, rfl⟩ (subF_spec ⟨rfl, rfl, rfl, rfl, trivial⟩) rfl (by decide) ?_
 rintro ⟨j, n, g, cap, cur⟩ hs
 obtain ⟨hj_, hn0, hn1, hr1_, hr2_, hr3_, hr4_⟩ : j ≤ l.length ∧ n = (timesL l x j).length ∧ 0 < n ∧ n ≤ cap ∧ cap ≤ maxLen ∧ cur.size = cap * 1 ∧ cur.toList.take (n * 1) = (timesL l x j).map (Value.int .i64) := hs
 refine c_seq rfl ?_
 refine c_seq rfl ?_
 refine r_ord (l := [0, 1, 2, 3]) rfl (by kernel_rfl) (by kernel_rfl) ?_
 refine s_v rfl rfl rfl rfl (v_mv rfl rfl) ?_
 refine s_v rfl rfl rfl rfl (v_mv rfl rfl) ?_
 refine s_v rfl rfl rfl rfl (v_len rfl rfl rfl Try.underlying22 rfl rfl) ?_
 refine s_v rfl rfl rfl rfl (v_ar rfl rfl rfl rfl) ?_
 refine s_end ?_
 refine q_seq ?_
 refine c_cond (t := decide (((j : Int) : Int) < (l.length : Nat))) rfl rfl (fun h3_ => ?_) (fun h3_ => ?_)
 have h3_d := of_decide_eq_true h3_
 have hjl : j < l.length := by omega
 have htl := times_len l x j
 refine c_skip rfl ?_
 refine q_seq ?_
 refine c_seq rfl ?_
 refine c_block rfl ?_
 refine c_seq rfl ?_
 refine r_any [.b b1_ (.cells #[.int .i64 x.f0, .int .i64 x.f1.f0, .int .u64 x.f1.f1, .int .u64 x.f1.f2, .int .i64 x.f1.f3, .int .i64 x.f1.f4, .int .i64 x.f2, .int .i64 x.f3, .int .i64 x.f4, .bool x.f5, .bool x.f6.f0, .bool x.f6.f1, .int .u64 x.f6.f2, .slice AE x.f6.f3.length cE] 48 (0, 0)), .b g (.cells cur 3 (0, 0)), .f (KC k48 A c l)] (by kernel_rfl) rfl (by kernel_rfl) (mem_pick (idx := [0, 1, 2]) rfl) ?_
 refine a_v 0 rfl (by kernel_rfl) (by kernel_rfl) (by kernel_rfl) rfl rfl rfl (v_mv rfl rfl) ?_
 refine a_v 1 rfl (by kernel_rfl) (by kernel_rfl) (by kernel_rfl) rfl rfl rfl (v_mv rfl rfl) ?_
 refine a_v 2 rfl (by kernel_rfl) (by kernel_rfl) (by kernel_rfl) rfl rfl rfl (v_iaK (i := 2) rfl Try.underlying22 SZ48 rfl rfl rfl rfl (by omega) (by omega)) ?_
 refine a_1 (i := 3) (by kernel_rfl) ?_
 refine i_e rfl rfl (e_ldKX z48 2 rfl rfl rfl Try.underlying48 rfl SZ48 rfl rfl rfl (by omega) (by omega)) ?_
 intro cs9_ h10_
 refine ⟨(mem_pick (idx := [1, 2, 3]) rfl), ?_⟩
 refine a_know 0 rfl (fun w h => k48_sh h) (fun h11_ => ?_)
 obtain ⟨A12_, c13_, rfl⟩ := h11_
 refine a_weak 0 rfl (fun w h => k48_row h) ?_
 refine a_1 (i := 4) (by kernel_rfl) ?_
 refine i_e rfl rfl (e_callF [0] #[.agg #[.int .i64 ((rd_T48 l (j : Int)).f0), .int .i64 ((rd_T48 l (j : Int)).f1.f0), .int .u64 ((rd_T48 l (j : Int)).f1.f1), .int .u64 ((rd_T48 l (j : Int)).f1.f2), .int .i64 ((rd_T48 l (j : Int)).f1.f3), .int .i64 ((rd_T48 l (j : Int)).f1.f4), .int .i64 ((rd_T48 l (j : Int)).f2), .int .i64 ((rd_T48 l (j : Int)).f3), .int .i64 ((rd_T48 l (j : Int)).f4), .bool ((rd_T48 l (j : Int)).f5), .bool ((rd_T48 l (j : Int)).f6.f0), .bool ((rd_T48 l (j : Int)).f6.f1), .int .u64 ((rd_T48 l (j : Int)).f6.f2), .slice A12_ ((rd_T48 l (j : Int)).f6.f3.length) c13_]] rfl rfl rfl rfl rfl Try.func29 rfl (by decide) rfl rfl rfl rfl (fun w ht => happ_con (rd_T48 l (j : Int)) A12_ c13_ w _)) ?_
 refine ⟨(mem_pick (idx := [2, 3, 4]) rfl), ?_⟩
 refine a_v 5 rfl (by kernel_rfl) (by kernel_rfl) (by kernel_rfl) rfl rfl rfl (v_mv rfl rfl) ?_
 refine a_splitv (d := 21) (t := hapB (rd_T48 l (j : Int))) rfl (fun h14_ => ?_) (fun h14_ => ?_)
 have h14_f : hapB (rd_T48 l (j : Int)) = true := h14_
 refine a_v 6 rfl (by kernel_rfl) (by kernel_rfl) (by kernel_rfl) rfl rfl rfl (v_mv rfl rfl) ?_
 refine a_v 7 rfl (by kernel_rfl) (by kernel_rfl) (by kernel_rfl) rfl rfl rfl (v_mv rfl rfl) ?_
 refine a_v 8 rfl (by kernel_rfl) (by kernel_rfl) (by kernel_rfl) rfl rfl rfl (v_iaK (i := 2) rfl Try.underlying22 SZ48 rfl rfl rfl rfl (by omega) (by omega)) ?_
 refine a_v 9 rfl (by kernel_rfl) (by kernel_rfl) (by kernel_rfl) rfl rfl rfl (v_fax rfl Try.underlying48 rfl SZ3 rfl) ?_
 refine a_v 10 rfl (by kernel_rfl) (by kernel_rfl) (by kernel_rfl) rfl rfl rfl (v_ldKq (v := .int .i64 (rd_T48 l (j : Int)).f3) z48 2 rfl Try.underlying3 rfl rfl rfl rfl (by omega) (by omega) (fun w K h => k48_at7 h)) ?_
 refine a_v 11 rfl (by kernel_rfl) (by kernel_rfl) (by kernel_rfl) rfl rfl rfl (v_fa rfl Try.underlying48 rfl SZ3 rfl) ?_
 refine a_v 12 rfl (by kernel_rfl) (by kernel_rfl) (by kernel_rfl) rfl rfl rfl (v_ld 0 rfl Try.underlying3 rfl rfl rfl rfl) ?_
 refine a_v 13 rfl (by kernel_rfl) (by kernel_rfl) (by kernel_rfl) rfl rfl rfl (v_ar rfl rfl rfl rfl) ?_
 refine a_v 14 rfl (by kernel_rfl) (by kernel_rfl) (by kernel_rfl) rfl rfl rfl (v_pick rfl rfl rfl rfl) ?_
 refine a_v 15 rfl (by kernel_rfl) (by kernel_rfl) (by kernel_rfl) rfl rfl rfl (v_mv rfl rfl) ?_
 refine a_splitv (d := 31) (t := decide (((rd_T48 l (j : Int)).f3 : Int) > x.f2)) rfl (fun h15_ => ?_) (fun h15_ => ?_)
 have h15_d := of_decide_eq_true h15_
 have h15_f : decide (keyA l (j : Int) > x.f2) = true := h15_
 refine a_v 16 rfl (by kernel_rfl) (by kernel_rfl) (by kernel_rfl) rfl rfl rfl (v_mv rfl rfl) ?_
 refine a_v 17 rfl (by kernel_rfl) (by kernel_rfl) (by kernel_rfl) rfl rfl rfl (v_mv rfl rfl) ?_
 refine a_v 18 rfl (by kernel_rfl) (by kernel_rfl) (by kernel_rfl) rfl rfl rfl (v_iaK (i := 2) rfl Try.underlying22 SZ48 rfl rfl rfl rfl (by omega) (by omega)) ?_
 refine a_v 19 rfl (by kernel_rfl) (by kernel_rfl) (by kernel_rfl) rfl rfl rfl (v_fax rfl Try.underlying48 rfl SZ3 rfl) ?_
 refine a_v 20 rfl (by kernel_rfl) (by kernel_rfl) (by kernel_rfl) rfl rfl rfl (v_ldKq (v := .int .i64 (rd_T48 l (j : Int)).f3) z48 2 rfl Try.underlying3 rfl rfl rfl rfl (by omega) (by omega) (fun w K h => k48_at7 h)) ?_
 refine a_v 21 rfl (by kernel_rfl) (by kernel_rfl) (by kernel_rfl) rfl rfl rfl (v_fa rfl Try.underlying48 rfl SZ3 rfl) ?_
 refine a_v 22 rfl (by kernel_rfl) (by kernel_rfl) (by kernel_rfl) rfl rfl rfl (v_ld 0 rfl Try.underlying3 rfl rfl rfl rfl) ?_
 refine a_v 23 rfl (by kernel_rfl) (by kernel_rfl) (by kernel_rfl) rfl rfl rfl (v_ar rfl rfl rfl rfl) ?_
 refine a_v 24 rfl (by kernel_rfl) (by kernel_rfl) (by kernel_rfl) rfl rfl rfl (v_pick rfl rfl rfl rfl) ?_
 refine a_end (by kernel_rfl) ?_
 refine q_seq ?_
 refine c_cond (t := decide (((rd_T48 l (j : Int)).f3 : Int) ≤ x.f4)) rfl rfl (fun h16_ => ?_) (fun h16_ => ?_)
 have h16_d := of_decide_eq_true h16_
 have h16_f : decide (keyA l (j : Int) ≤ x.f4) = true := h16_
 refine r_ord (l := [0, 1, 2, 3, 4, 5, 6, 7, 8]) rfl (by kernel_rfl) (by kernel_rfl) ?_
 refine s_v rfl rfl rfl rfl (v_mv rfl rfl) ?_
 refine s_v rfl rfl rfl rfl (v_mv rfl rfl) ?_
 refine s_v rfl rfl rfl rfl (v_mv rfl rfl) ?_
 refine s_v rfl rfl rfl rfl (v_iaK (i := 4) rfl Try.underlying22 SZ48 rfl rfl rfl rfl (by omega) (by omega)) ?_
 refine s_v rfl rfl rfl rfl (v_fax rfl Try.underlying48 rfl SZ3 rfl) ?_
 refine s_v rfl rfl rfl rfl (v_ldKq (v := .int .i64 (rd_T48 l (j : Int)).f3) z48 4 rfl Try.underlying3 rfl rfl rfl rfl (by omega) (by omega) (fun w K h => k48_at7 h)) ?_
 refine s_e rfl rfl (e_bslice #[.int .i64 ((rd_T48 l (j : Int)).f3)] (.int .i64 0) rfl rfl rfl Try.underlying25 SZ3 ZR3 (by decide) rfl (by kernel_rfl)) ?_
 intro b17_
 refine s_e rfl rfl (e_app (z := (.int .i64 0)) (m := 1) (bytes := 8) (k := 1) (news := [.int .i64 ((rd_T48 l (j : Int)).f3)]) (i := 0) (j := 4) rfl rfl rfl rfl rfl rfl Try.underlying25 (by kernel_rfl) rfl (by decide) rfl rfl hr1_ hr2_ hr3_ hr4_ rfl rfl rfl rfl (by simp [Value.oneCell']) (by omega) (by simp only [maxLen]; omega)) ?_
 intro g18_ cap19_ cur20_ h21_ h22_ h23_ h24_
 refine s_v rfl rfl rfl rfl (v_as rfl rfl) ?_
 refine s_end ?_
 refine q_block ?_
 refine q_seq ?_
 refine r_ord (l := [0, 1, 2]) rfl (by kernel_rfl) (by kernel_rfl) ?_
 refine s_v rfl rfl rfl rfl (v_mv rfl rfl) ?_
 refine s_v rfl rfl rfl rfl (OpV.cast (v := .int .i64 ((j + 1 : Nat) : Int)) (v_ar rfl rfl rfl rfl) (addN (a := j) (b := 1) (by omega))) ?_
 refine s_v rfl rfl rfl rfl (v_as rfl rfl) ?_
 refine s_end ?_
 have hm : amidR l x (j : Int) = true := by unfold amidR; rw [h14_f, h15_f, h16_f]; rfl
 have he := times_yes hm
 exact q_again (j + 1, n + 1, g18_, cap19_, cur20_) [3, 4, 5] ⟨by omega, by rw [he, List.length_append, ← hn0]; rfl, by omega, h21_, h22_, h23_, by rw [he, List.map_append]; exact h24_⟩ (by dsimp only; omega) (subF_spec ⟨rfl, rfl, rfl, rfl, trivial⟩) rfl (by decide)
 have h16_d := of_decide_eq_false h16_
 have h16_f : decide (keyA l (j : Int) ≤ x.f4) = false := h16_
 refine c_skip rfl ?_
 refine q_block ?_
 refine q_seq ?_
 refine r_ord (l := [0, 1, 2]) rfl (by kernel_rfl) (by kernel_rfl) ?_
 refine s_v rfl rfl rfl rfl (v_mv rfl rfl) ?_
 refine s_v rfl rfl rfl rfl (OpV.cast (v := .int .i64 ((j + 1 : Nat) : Int)) (v_ar rfl rfl rfl rfl) (addN (a := j) (b := 1) (by omega))) ?_
 refine s_v rfl rfl rfl rfl (v_as rfl rfl) ?_
 refine s_end ?_
 have hm : amidR l x (j : Int) = false := by unfold amidR; rw [h14_f, h15_f, h16_f]; rfl
 have he := times_no hm
 exact q_again (j + 1, n, g, cap, cur) [2, 3, 4] (by dsimp only; rw [he]; exact ⟨by omega, hn0, hn1, hr1_, hr2_, hr3_, hr4_⟩) (by dsimp only; omega) (subF_spec ⟨rfl, rfl, rfl, rfl, trivial⟩) rfl (by decide)
 have h15_d := of_decide_eq_false h15_
 have h15_f : decide (keyA l (j : Int) > x.f2) = false := h15_
 refine a_no 16 rfl (by kernel_rfl) (by kernel_rfl) (by kernel_rfl) rfl rfl rfl ?_
 refine a_no 17 rfl (by kernel_rfl) (by kernel_rfl) (by kernel_rfl) rfl rfl rfl ?_
 refine a_no 18 rfl (by kernel_rfl) (by kernel_rfl) (by kernel_rfl) rfl rfl rfl ?_
 refine a_no 19 rfl (by kernel_rfl) (by kernel_rfl) (by kernel_rfl) rfl rfl rfl ?_
 refine a_no 20 rfl (by kernel_rfl) (by kernel_rfl) (by kernel_rfl) rfl rfl rfl ?_
 refine a_no 21 rfl (by kernel_rfl) (by kernel_rfl) (by kernel_rfl) rfl rfl rfl ?_
 refine a_no 22 rfl (by kernel_rfl) (by kernel_rfl) (by kernel_rfl) rfl rfl rfl ?_
 refine a_no 23 rfl (by kernel_rfl) (by kernel_rfl) (by kernel_rfl) rfl rfl rfl ?_
 refine a_v 24 rfl (by kernel_rfl) (by kernel_rfl) (by kernel_rfl) rfl rfl rfl (v_pick rfl rfl rfl rfl) ?_
 refine a_end (by kernel_rfl) ?_
 refine q_seq ?_
 refine c_cond0 rfl rfl ?_
 refine c_skip rfl ?_
 refine q_block ?_
 refine q_seq ?_
 refine r_ord (l := [0, 1, 2]) rfl (by kernel_rfl) (by kernel_rfl) ?_
 refine s_v rfl rfl rfl rfl (v_mv rfl rfl) ?_
 refine s_v rfl rfl rfl rfl (OpV.cast (v := .int .i64 ((j + 1 : Nat) : Int)) (v_ar rfl rfl rfl rfl) (addN (a := j) (b := 1) (by omega))) ?_
 refine s_v rfl rfl rfl rfl (v_as rfl rfl) ?_
 refine s_end ?_
 have hm : amidR l x (j : Int) = false := by unfold amidR; rw [h14_f, h15_f]; rfl
 have he := times_no hm
 exact q_again (j + 1, n, g, cap, cur) [2, 3, 4] (by dsimp only; rw [he]; exact ⟨by omega, hn0, hn1, hr1_, hr2_, hr3_, hr4_⟩) (by dsimp only; omega) (subF_spec ⟨rfl, rfl, rfl, rfl, trivial⟩) rfl (by decide)
 have h14_f : hapB (rd_T48 l (j : Int)) = false := h14_
 refine a_no 6 rfl (by kernel_rfl) (by kernel_rfl) (by kernel_rfl) rfl rfl rfl ?_
 refine a_no 7 rfl (by kernel_rfl) (by kernel_rfl) (by kernel_rfl) rfl rfl rfl ?_
 refine a_no 8 rfl (by kernel_rfl) (by kernel_rfl) (by kernel_rfl) rfl rfl rfl ?_
 refine a_no 9 rfl (by kernel_rfl) (by kernel_rfl) (by kernel_rfl) rfl rfl rfl ?_
 refine a_no 10 rfl (by kernel_rfl) (by kernel_rfl) (by kernel_rfl) rfl rfl rfl ?_
 refine a_no 11 rfl (by kernel_rfl) (by kernel_rfl) (by kernel_rfl) rfl rfl rfl ?_
 refine a_no 12 rfl (by kernel_rfl) (by kernel_rfl) (by kernel_rfl) rfl rfl rfl ?_
 refine a_no 13 rfl (by kernel_rfl) (by kernel_rfl) (by kernel_rfl) rfl rfl rfl ?_
 refine a_v 14 rfl (by kernel_rfl) (by kernel_rfl) (by kernel_rfl) rfl rfl rfl (v_pick rfl rfl rfl rfl) ?_
 refine a_v 15 rfl (by kernel_rfl) (by kernel_rfl) (by kernel_rfl) rfl rfl rfl (v_mv rfl rfl) ?_
 refine a_no 16 rfl (by kernel_rfl) (by kernel_rfl) (by kernel_rfl) rfl rfl rfl ?_
 refine a_no 17 rfl (by kernel_rfl) (by kernel_rfl) (by kernel_rfl) rfl rfl rfl ?_
 refine a_no 18 rfl (by kernel_rfl) (by kernel_rfl) (by kernel_rfl) rfl rfl rfl ?_
 refine a_no 19 rfl (by kernel_rfl) (by kernel_rfl) (by kernel_rfl) rfl rfl rfl ?_
 refine a_no 20 rfl (by kernel_rfl) (by kernel_rfl) (by kernel_rfl) rfl rfl rfl ?_
 refine a_no 21 rfl (by kernel_rfl) (by kernel_rfl) (by kernel_rfl) rfl rfl rfl ?_
 refine a_no 22 rfl (by kernel_rfl) (by kernel_rfl) (by kernel_rfl) rfl rfl rfl ?_
 refine a_no 23 rfl (by kernel_rfl) (by kernel_rfl) (by kernel_rfl) rfl rfl rfl ?_
 refine a_v 24 rfl (by kernel_rfl) (by kernel_rfl) (by kernel_rfl) rfl rfl rfl (v_pick rfl rfl rfl rfl) ?_
 refine a_end (by kernel_rfl) ?_
 refine q_seq ?_
 refine c_cond0 rfl rfl ?_
 refine c_skip rfl ?_
 refine q_block ?_
 refine q_seq ?_
 refine r_ord (l := [0, 1, 2]) rfl (by kernel_rfl) (by kernel_rfl) ?_
 refine s_v rfl rfl rfl rfl (v_mv rfl rfl) ?_
 refine s_v rfl rfl rfl rfl (OpV.cast (v := .int .i64 ((j + 1 : Nat) : Int)) (v_ar rfl rfl rfl rfl) (addN (a := j) (b := 1) (by omega))) ?_
 refine s_v rfl rfl rfl rfl (v_as rfl rfl) ?_
 refine s_end ?_
 have hm : amidR l x (j : Int) = false := by unfold amidR; rw [h14_f]; simp
 have he := times_no hm
 exact q_again (j + 1, n, g, cap, cur) [2, 3, 4] (by dsimp only; rw [he]; exact ⟨by omega, hn0, hn1, hr1_, hr2_, hr3_, hr4_⟩) (by dsimp only; omega) (subF_spec ⟨rfl, rfl, rfl, rfl, trivial⟩) rfl (by decide)
 have h3_d := of_decide_eq_false h3_
 obtain rfl : j = l.length := by omega
 refine c_exit (i := 0) rfl rfl ?_
 refine q_then_exit ?_
 refine q_then_exit ?_
 refine q_block_here rfl ?_
 refine q_seq ?_
 refine c_seq rfl ?_
 refine r_ord (l := [0, 1]) rfl (by kernel_rfl) (by kernel_rfl) ?_
 refine s_v rfl rfl rfl rfl (v_mv rfl rfl) ?_
 refine s_v rfl rfl rfl rfl (v_as rfl rfl) ?_
 refine s_end ?_
 refine q_seq ?_
 refine c_ret rfl ?_
 subst hn0
 refine q_give [1] rfl (by decide) (by simp [ids, Ent.id?]) (KC_own (k := .i64) (cap := cap) (xs := timesL l x l.length) hr4_ hr1_ hr2_) ?_
 exact q_post rfl (.cons rfl (.nil)) (hX (some ⟨g, 0, none⟩) cap)
set_option maxRecDepth 100000 in
set_option maxHeartbeats 4000000 in
theorem right_con (A : Option Addr) (c : Nat) (l : List S48) (x : S48) (AE : Option Addr) (cE : Nat) (hl : l.length ≤ 40) (hk : x.f6.f3.length ≤ 40) (w0 : World) (H : List Nat) : Con Try.prog 46 #[.slice A l.length c, .agg #[.int .i64 x.f0, .int .i64 x.f1.f0, .int .u64 x.f1.f1, .int .u64 x.f1.f2, .int .i64 x.f1.f3, .int .i64 x.f1.f4, .int .i64 x.f2, .int .i64 x.f3, .int .i64 x.f4, .bool x.f5, .bool x.f6.f0, .bool x.f6.f1, .int .u64 x.f6.f2, .slice AE x.f6.f3.length cE]] w0 H [.f (KC k48 A c l), .f (KC (Kd.int .u64) AE cE x.f6.f3)] (fun X => X (.bool (okR l x)) []) := by
 refine con_enter (c := bodyOf Try.f46) Try.func46 rfl (m := 173) rfl rfl rfl ?_
 intro X hX _
 refine c_seq rfl ?_
 refine r_ord (l := [0, 1]) rfl (by kernel_rfl) (by kernel_rfl) ?_
 refine s_e rfl rfl (e_box rfl rfl rfl rfl) ?_
 intro b1_
 refine s_v rfl rfl rfl rfl (v_as rfl rfl) ?_
 refine s_end ?_
 refine q_seq ?_
 refine c_seq rfl ?_
 refine r_ord (l := [0, 1, 2, 3]) rfl (by kernel_rfl) (by kernel_rfl) ?_
 refine s_v rfl rfl rfl rfl (v_fa rfl Try.underlying48 rfl SZ46 rfl) ?_
 refine s_v rfl rfl rfl rfl (v_fa rfl Try.underlying46 rfl SZ44 rfl) ?_
 refine s_v rfl rfl rfl rfl (v_ld 0 rfl Try.underlying44 rfl rfl rfl rfl) ?_
 refine s_v rfl rfl rfl rfl (v_as rfl rfl) ?_
 refine s_end ?_
 refine q_seq ?_
 refine c_seq rfl ?_
 refine r_ord (l := [0, 1, 2, 3]) rfl (by kernel_rfl) (by kernel_rfl) ?_
 refine s_v rfl rfl rfl rfl (v_fa rfl Try.underlying48 rfl SZ43 rfl) ?_
 refine s_v rfl rfl rfl rfl (v_fa rfl Try.underlying43 rfl SZ3 rfl) ?_
 refine s_v rfl rfl rfl rfl (v_ld 0 rfl Try.underlying3 rfl rfl rfl rfl) ?_
 refine s_v rfl rfl rfl rfl (v_as rfl rfl) ?_
 refine s_end ?_
 refine q_seq ?_
 refine c_seq rfl ?_
 refine c_seq rfl ?_
 refine r_ord (l := [0, 1]) rfl (by kernel_rfl) (by kernel_rfl) ?_
 refine s_v rfl rfl rfl rfl (v_mv rfl rfl) ?_
 refine s_v rfl rfl rfl rfl (v_ar rfl rfl rfl rfl) ?_
 refine s_end ?_
 refine q_seq ?_
 refine c_cond (t := decide ((x.f1.f3 : Int) < 0)) rfl rfl (fun h2_ => ?_) (fun h2_ => ?_)
 have h2_d := of_decide_eq_true h2_
 have hmx : mx 0 x.f1.f3 = 0 := by unfold mx; split <;> omega
 refine r_ord (l := [0]) rfl (by kernel_rfl) (by kernel_rfl) ?_
 refine s_v rfl rfl rfl rfl (v_as rfl rfl) ?_
 refine s_end ?_
 refine q_seq ?_
 refine c_seq rfl ?_
 refine c_seq rfl ?_
 refine r_ord (l := [0, 1, 2, 3, 4, 5, 6, 7, 8, 9, 10]) rfl (by kernel_rfl) (by kernel_rfl) ?_
 refine s_v rfl rfl rfl rfl (v_fa rfl Try.underlying48 rfl SZ3 rfl) ?_
 refine s_v rfl rfl rfl rfl (v_ld 0 rfl Try.underlying3 rfl rfl rfl rfl) ?_
 refine s_v rfl rfl rfl rfl (v_fa rfl Try.underlying48 rfl SZ3 rfl) ?_
 refine s_v rfl rfl rfl rfl (v_ld 0 rfl Try.underlying3 rfl rfl rfl rfl) ?_
 refine s_v rfl rfl rfl rfl (v_ar rfl rfl rfl rfl) ?_
 refine s_v rfl rfl rfl rfl (v_mv rfl rfl) ?_
 refine s_splitv (d := 30) (t := decide ((x.f2 : Int) > x.f4)) rfl (fun h3_ => ?_) (fun h3_ => ?_)
 have h3_d := of_decide_eq_true h3_
 refine s_no rfl rfl rfl rfl ?_
 refine s_no rfl rfl rfl rfl ?_
 refine s_no rfl rfl rfl rfl ?_
 refine s_no rfl rfl rfl rfl ?_
 refine s_v rfl rfl rfl rfl (v_pick rfl rfl rfl rfl) ?_
 refine s_end ?_
 refine q_seq ?_
 refine c_cond1 rfl rfl ?_
 refine c_seq rfl ?_
 refine r_ord (l := [0]) rfl (by kernel_rfl) (by kernel_rfl) ?_
 refine s_v rfl rfl rfl rfl (v_as rfl rfl) ?_
 refine s_end ?_
 refine q_seq ?_
 refine c_ret rfl ?_
 refine q_then_ret ?_
 refine q_take [] rfl (by decide) ?_
 rw [okR_bad1 h3_d] at hX
 exact q_post rfl (.cons rfl (.nil)) hX
 have h3_d := of_decide_eq_false h3_
 have hbeg : decide (x.f2 ≤ x.f4) = true := decide_eq_true (by omega)
 refine s_vg rfl rfl rfl rfl (v_mv rfl rfl) ?_
 refine s_vg rfl rfl rfl rfl (v_len rfl rfl rfl Try.underlying44 rfl rfl) ?_
 refine s_vg rfl rfl rfl rfl (v_mv rfl rfl) ?_
 refine s_vg rfl rfl rfl rfl (v_ar rfl rfl rfl rfl) ?_
 refine s_v rfl rfl rfl rfl (v_pick rfl rfl rfl rfl) ?_
 refine s_end ?_
 refine q_seq ?_
 refine c_cond (t := decide (((x.f6.f3.length : Nat) : Int) > 0)) rfl rfl (fun h4_ => ?_) (fun h4_ => ?_)
 have h4_d := of_decide_eq_true h4_
 refine c_seq rfl ?_
 refine r_ord (l := [0]) rfl (by kernel_rfl) (by kernel_rfl) ?_
 refine s_v rfl rfl rfl rfl (v_as rfl rfl) ?_
 refine s_end ?_
 refine q_seq ?_
 refine c_ret rfl ?_
 refine q_then_ret ?_
 refine q_take [] rfl (by decide) ?_
 rw [okR_bad2 (show (x.f6.f3.length : Int) > mx 0 x.f1.f3 by rw [hmx]; omega)] at hX
 exact q_post rfl (.cons rfl (.nil)) hX
 have h4_d := of_decide_eq_false h4_
 have hlen : decide ((x.f6.f3.length : Int) ≤ mx 0 x.f1.f3) = true := decide_eq_true (by rw [hmx]; omega)
 refine c_skip rfl ?_
 refine q_seq ?_
 refine c_seq rfl ?_
 refine r_ord (l := [0, 1, 2, 3]) rfl (by kernel_rfl) (by kernel_rfl) ?_
 refine s_v rfl rfl rfl rfl (v_mv rfl rfl) ?_
 refine s_v rfl rfl rfl rfl (v_ldA [.int .i64 x.f0, .int .i64 x.f1.f0, .int .u64 x.f1.f1, .int .u64 x.f1.f2, .int .i64 x.f1.f3, .int .i64 x.f1.f4, .int .i64 x.f2, .int .i64 x.f3, .int .i64 x.f4, .bool x.f5, .bool x.f6.f0, .bool x.f6.f1, .int .u64 x.f6.f2, .slice AE x.f6.f3.length cE] 0 rfl Try.underlying48 rfl SZ48 rfl rfl rfl rfl) ?_
 refine s_e rfl rfl (e_callF [1] #[.slice A l.length c, .agg #[.int .i64 x.f0, .int .i64 x.f1.f0, .int .u64 x.f1.f1, .int .u64 x.f1.f2, .int .i64 x.f1.f3, .int .i64 x.f1.f4, .int .i64 x.f2, .int .i64 x.f3, .int .i64 x.f4, .bool x.f5, .bool x.f6.f0, .bool x.f6.f1, .int .u64 x.f6.f2, .slice AE x.f6.f3.length cE]] rfl rfl rfl rfl rfl Try.func60 rfl (by decide) rfl rfl rfl rfl (fun w ht => times_con A c l x AE cE hl w _)) ?_
 intro A5_ c6_
 refine s_v rfl rfl rfl rfl (v_as rfl rfl) ?_
 refine s_end ?_
 refine q_seq ?_
 refine c_seq rfl ?_
 refine c_seq rfl ?_
 refine r_ord (l := [0]) rfl (by kernel_rfl) (by kernel_rfl) ?_
 refine s_v rfl rfl rfl rfl (v_as rfl rfl) ?_
 refine s_end ?_
 refine q_seq ?_
 refine c_block rfl ?_
 refine c_loop (σ := Nat) (fun i => i ≤ x.f6.f3.length ∧ (List.range i).all (okKey x) = true ∧ (x.f6.f3.take i).any (fun k => !(onceL l x k)) = false) (fun i => x.f6.f3.length - i) (fun i => [(0, .slice A l.length c), (3, .pointer (some ⟨b1_, 0, none⟩)), (5, .slice AE x.f6.f3.length cE), (6, .int .i64 0), (7, .slice A5_ ((timesL l x l.length).length) c6_), (8, .int .i64 (i : Int))]) (fun i => [.f (KC (Kd.int .i64) A5_ c6_ (timesL l x l.length)), .b b1_ (.cells #[.int .i64 x.f0, .int .i64 x.f1.f0, .int .u64 x.f1.f1, .int .u64 x.f1.f2, .int .i64 x.f1.f3, .int .i64 x.f1.f4, .int .i64 x.f2, .int .i64 x.f3, .int .i64 x.f4, .bool x.f5, .bool x.f6.f0, .bool x.f6.f1, .int .u64 x.f6.f2, .slice AE x.f6.f3.length cE] 48 (0, 0)), .f (KC k48 A c l), .f (KC (Kd.int .u64) AE cE x.f6.f3)]) 0 [0, 1, 2, 3] rfl ⟨Nat.zero_le _, rfl, rfl⟩ (subF_spec ⟨rfl, rfl, rfl, rfl, rfl, rfl, trivial⟩) rfl (by decide) ?_
 rintro i hs
 have hi_ : i ≤ x.f6.f3.length := hs.1
 have hs1 := hs
 refine c_seq rfl ?_
 refine c_seq rfl ?_
 refine r_ord (l := [0, 1, 2, 3]) rfl (by kernel_rfl) (by kernel_rfl) ?_
 refine s_v rfl rfl rfl rfl (v_mv rfl rfl) ?_
 refine s_v rfl rfl rfl rfl (v_mv rfl rfl) ?_
 refine s_v rfl rfl rfl rfl (v_len rfl rfl rfl Try.underlying44 rfl rfl) ?_
 refine s_v rfl rfl rfl rfl (v_ar rfl rfl rfl rfl) ?_
 refine s_end ?_
 refine q_seq ?_
 refine c_cond (t := decide (((i : Int) : Int) < (x.f6.f3.length : Nat))) rfl rfl (fun h7_ => ?_) (fun h7_ => ?_)
 have h7_d := of_decide_eq_true h7_
 have hil : i < x.f6.f3.length := by omega
 refine c_skip rfl ?_
 refine q_seq ?_
 refine c_seq rfl ?_
 refine c_block rfl ?_
 refine c_seq rfl ?_
 refine c_seq rfl ?_
 refine r_any [.f (KC (Kd.int .i64) A5_ c6_ (timesL l x l.length)), .b b1_ (.cells #[.int .i64 x.f0, .int .i64 x.f1.f0, .int .u64 x.f1.f1, .int .u64 x.f1.f2, .int .i64 x.f1.f3, .int .i64 x.f1.f4, .int .i64 x.f2, .int .i64 x.f3, .int .i64 x.f4, .bool x.f5, .bool x.f6.f0, .bool x.f6.f1, .int .u64 x.f6.f2, .slice AE x.f6.f3.length cE] 48 (0, 0)), .f (KC k48 A c l), .f (KC (Kd.int .u64) AE cE x.f6.f3)] (by kernel_rfl) rfl (by kernel_rfl) (mem_pick (idx := [0, 1, 2, 3]) rfl) ?_
 refine a_v 0 rfl (by kernel_rfl) (by kernel_rfl) (by kernel_rfl) rfl rfl rfl (v_mv rfl rfl) ?_
 refine a_v 1 rfl (by kernel_rfl) (by kernel_rfl) (by kernel_rfl) rfl rfl rfl (v_mv rfl rfl) ?_
 refine a_v 2 rfl (by kernel_rfl) (by kernel_rfl) (by kernel_rfl) rfl rfl rfl (v_iaK (i := 3) rfl Try.underlying44 SZ41 rfl rfl rfl rfl (by omega) (by omega)) ?_
 refine a_v 3 rfl (by kernel_rfl) (by kernel_rfl) (by kernel_rfl) rfl rfl rfl (v_ldK (v := .int .u64 (rd x.f6.f3 (i : Int))) 0 3 rfl Try.underlying41 rfl rfl rfl rfl (by omega) (by omega) (fun w K h => h)) ?_
 refine a_v 4 rfl (by kernel_rfl) (by kernel_rfl) (by kernel_rfl) rfl rfl rfl (v_fa rfl Try.underlying48 rfl SZ43 rfl) ?_
 refine a_v 5 rfl (by kernel_rfl) (by kernel_rfl) (by kernel_rfl) rfl rfl rfl (v_fa rfl Try.underlying43 rfl SZ41 rfl) ?_
 refine a_v 6 rfl (by kernel_rfl) (by kernel_rfl) (by kernel_rfl) rfl rfl rfl (v_ld 1 rfl Try.underlying41 rfl rfl rfl rfl) ?_
 refine a_v 7 rfl (by kernel_rfl) (by kernel_rfl) (by kernel_rfl) rfl rfl rfl (v_ar rfl rfl rfl rfl) ?_
 refine a_v 8 rfl (by kernel_rfl) (by kernel_rfl) (by kernel_rfl) rfl rfl rfl (v_mv rfl rfl) ?_
 refine a_splitv (d := 53) (t := decide ((rd x.f6.f3 (i : Int) : Int) < x.f1.f1)) rfl (fun h8_ => ?_) (fun h8_ => ?_)
 have h8_d := of_decide_eq_true h8_
 have h8_f : decide (rd x.f6.f3 (i : Int) < x.f1.f1) = true := h8_
 refine a_no 9 rfl (by kernel_rfl) (by kernel_rfl) (by kernel_rfl) rfl rfl rfl ?_
 refine a_no 10 rfl (by kernel_rfl) (by kernel_rfl) (by kernel_rfl) rfl rfl rfl ?_
 refine a_no 11 rfl (by kernel_rfl) (by kernel_rfl) (by kernel_rfl) rfl rfl rfl ?_
 refine a_no 12 rfl (by kernel_rfl) (by kernel_rfl) (by kernel_rfl) rfl rfl rfl ?_
 refine a_no 13 rfl (by kernel_rfl) (by kernel_rfl) (by kernel_rfl) rfl rfl rfl ?_
 refine a_no 14 rfl (by kernel_rfl) (by kernel_rfl) (by kernel_rfl) rfl rfl rfl ?_
 refine a_no 15 rfl (by kernel_rfl) (by kernel_rfl) (by kernel_rfl) rfl rfl rfl ?_
 refine a_no 16 rfl (by kernel_rfl) (by kernel_rfl) (by kernel_rfl) rfl rfl rfl ?_
 refine a_v 17 rfl (by kernel_rfl) (by kernel_rfl) (by kernel_rfl) rfl rfl rfl (v_pick rfl rfl rfl rfl) ?_
 refine a_v 18 rfl (by kernel_rfl) (by kernel_rfl) (by kernel_rfl) rfl rfl rfl (v_mv rfl rfl) ?_
 refine a_no 19 rfl (by kernel_rfl) (by kernel_rfl) (by kernel_rfl) rfl rfl rfl ?_
 refine a_no 20 rfl (by kernel_rfl) (by kernel_rfl) (by kernel_rfl) rfl rfl rfl ?_
 refine a_no 21 rfl (by kernel_rfl) (by kernel_rfl) (by kernel_rfl) rfl rfl rfl ?_
 refine a_no 22 rfl (by kernel_rfl) (by kernel_rfl) (by kernel_rfl) rfl rfl rfl ?_
 refine a_no 23 rfl (by kernel_rfl) (by kernel_rfl) (by kernel_rfl) rfl rfl rfl ?_
 refine a_no 24 rfl (by kernel_rfl) (by kernel_rfl) (by kernel_rfl) rfl rfl rfl ?_
 refine a_no 25 rfl (by kernel_rfl) (by kernel_rfl) (by kernel_rfl) rfl rfl rfl ?_
 refine a_no 26 rfl (by kernel_rfl) (by kernel_rfl) (by kernel_rfl) rfl rfl rfl ?_
 refine a_no 27 rfl (by kernel_rfl) (by kernel_rfl) (by kernel_rfl) rfl rfl rfl ?_
 refine a_no 28 rfl (by kernel_rfl) (by kernel_rfl) (by kernel_rfl) rfl rfl rfl ?_
 refine a_no 29 rfl (by kernel_rfl) (by kernel_rfl) (by kernel_rfl) rfl rfl rfl ?_
 refine a_no 30 rfl (by kernel_rfl) (by kernel_rfl) (by kernel_rfl) rfl rfl rfl ?_
 refine a_no 31 rfl (by kernel_rfl) (by kernel_rfl) (by kernel_rfl) rfl rfl rfl ?_
 refine a_no 32 rfl (by kernel_rfl) (by kernel_rfl) (by kernel_rfl) rfl rfl rfl ?_
 refine a_v 33 rfl (by kernel_rfl) (by kernel_rfl) (by kernel_rfl) rfl rfl rfl (v_pick rfl rfl rfl rfl) ?_
 refine a_end (by kernel_rfl) ?_
 refine q_seq ?_
 refine c_cond1 rfl rfl ?_
 refine c_seq rfl ?_
 refine r_ord (l := [0]) rfl (by kernel_rfl) (by kernel_rfl) ?_
 refine s_v rfl rfl rfl rfl (v_as rfl rfl) ?_
 refine s_end ?_
 refine q_seq ?_
 refine c_ret rfl ?_
 refine q_then_ret ?_
 refine q_block_ret ?_
 refine q_then_ret ?_
 refine q_then_ret ?_
 refine q_block_ret ?_
 refine q_then_ret ?_
 refine q_take [] rfl (by decide) ?_
 rw [okR_bad3 hil (show okKey x i = false by unfold okKey; rw [h8_f]; rfl)] at hX
 exact q_post rfl (.cons rfl (.nil)) hX
 have h8_d := of_decide_eq_false h8_
 have h8_f : decide (rd x.f6.f3 (i : Int) < x.f1.f1) = false := h8_
 refine a_v 9 rfl (by kernel_rfl) (by kernel_rfl) (by kernel_rfl) rfl rfl rfl (v_mv rfl rfl) ?_
 refine a_v 10 rfl (by kernel_rfl) (by kernel_rfl) (by kernel_rfl) rfl rfl rfl (v_mv rfl rfl) ?_
 refine a_v 11 rfl (by kernel_rfl) (by kernel_rfl) (by kernel_rfl) rfl rfl rfl (v_iaK (i := 3) rfl Try.underlying44 SZ41 rfl rfl rfl rfl (by omega) (by omega)) ?_
 refine a_v 12 rfl (by kernel_rfl) (by kernel_rfl) (by kernel_rfl) rfl rfl rfl (v_ldK (v := .int .u64 (rd x.f6.f3 (i : Int))) 0 3 rfl Try.underlying41 rfl rfl rfl rfl (by omega) (by omega) (fun w K h => h)) ?_
 refine a_v 13 rfl (by kernel_rfl) (by kernel_rfl) (by kernel_rfl) rfl rfl rfl (v_fa rfl Try.underlying48 rfl SZ43 rfl) ?_
 refine a_v 14 rfl (by kernel_rfl) (by kernel_rfl) (by kernel_rfl) rfl rfl rfl (v_fa rfl Try.underlying43 rfl SZ41 rfl) ?_
 refine a_v 15 rfl (by kernel_rfl) (by kernel_rfl) (by kernel_rfl) rfl rfl rfl (v_ld 1 rfl Try.underlying41 rfl rfl rfl rfl) ?_
 refine a_v 16 rfl (by kernel_rfl) (by kernel_rfl) (by kernel_rfl) rfl rfl rfl (v_ar rfl rfl rfl rfl) ?_
 refine a_v 17 rfl (by kernel_rfl) (by kernel_rfl) (by kernel_rfl) rfl rfl rfl (v_pick rfl rfl rfl rfl) ?_
 refine a_v 18 rfl (by kernel_rfl) (by kernel_rfl) (by kernel_rfl) rfl rfl rfl (v_mv rfl rfl) ?_
 refine a_splitv (d := 63) (t := decide ((rd x.f6.f3 (i : Int) : Int) > x.f1.f2)) rfl (fun h9_ => ?_) (fun h9_ => ?_)
 have h9_d := of_decide_eq_true h9_
 have h9_f : decide (rd x.f6.f3 (i : Int) > x.f1.f2) = true := h9_
 refine a_no 19 rfl (by kernel_rfl) (by kernel_rfl) (by kernel_rfl) rfl rfl rfl ?_
 refine a_no 20 rfl (by kernel_rfl) (by kernel_rfl) (by kernel_rfl) rfl rfl rfl ?_
 refine a_no 21 rfl (by kernel_rfl) (by kernel_rfl) (by kernel_rfl) rfl rfl rfl ?_
 refine a_no 22 rfl (by kernel_rfl) (by kernel_rfl) (by kernel_rfl) rfl rfl rfl ?_
 refine a_no 23 rfl (by kernel_rfl) (by kernel_rfl) (by kernel_rfl) rfl rfl rfl ?_
 refine a_no 24 rfl (by kernel_rfl) (by kernel_rfl) (by kernel_rfl) rfl rfl rfl ?_
 refine a_no 25 rfl (by kernel_rfl) (by kernel_rfl) (by kernel_rfl) rfl rfl rfl ?_
 refine a_no 26 rfl (by kernel_rfl) (by kernel_rfl) (by kernel_rfl) rfl rfl rfl ?_
 refine a_no 27 rfl (by kernel_rfl) (by kernel_rfl) (by kernel_rfl) rfl rfl rfl ?_
 refine a_no 28 rfl (by kernel_rfl) (by kernel_rfl) (by kernel_rfl) rfl rfl rfl ?_
 refine a_no 29 rfl (by kernel_rfl) (by kernel_rfl) (by kernel_rfl) rfl rfl rfl ?_
 refine a_no 30 rfl (by kernel_rfl) (by kernel_rfl) (by kernel_rfl) rfl rfl rfl ?_
 refine a_no 31 rfl (by kernel_rfl) (by kernel_rfl) (by kernel_rfl) rfl rfl rfl ?_
 refine a_no 32 rfl (by kernel_rfl) (by kernel_rfl) (by kernel_rfl) rfl rfl rfl ?_
 refine a_v 33 rfl (by kernel_rfl) (by kernel_rfl) (by kernel_rfl) rfl rfl rfl (v_pick rfl rfl rfl rfl) ?_
 refine a_end (by kernel_rfl) ?_
 refine q_seq ?_
 refine c_cond1 rfl rfl ?_
 refine c_seq rfl ?_
 refine r_ord (l := [0]) rfl (by kernel_rfl) (by kernel_rfl) ?_
 refine s_v rfl rfl rfl rfl (v_as rfl rfl) ?_
 refine s_end ?_
 refine q_seq ?_
 refine c_ret rfl ?_
 refine q_then_ret ?_
 refine q_block_ret ?_
 refine q_then_ret ?_
 refine q_then_ret ?_
 refine q_block_ret ?_
 refine q_then_ret ?_
 refine q_take [] rfl (by decide) ?_
 rw [okR_bad3 hil (show okKey x i = false by unfold okKey; rw [h8_f, h9_f]; rfl)] at hX
 exact q_post rfl (.cons rfl (.nil)) hX
 have h9_d := of_decide_eq_false h9_
 have h9_f : decide (rd x.f6.f3 (i : Int) > x.f1.f2) = false := h9_
 refine a_v 19 rfl (by kernel_rfl) (by kernel_rfl) (by kernel_rfl) rfl rfl rfl (v_mv rfl rfl) ?_
 refine a_v 20 rfl (by kernel_rfl) (by kernel_rfl) (by kernel_rfl) rfl rfl rfl (v_ar rfl rfl rfl rfl) ?_
 refine a_v 21 rfl (by kernel_rfl) (by kernel_rfl) (by kernel_rfl) rfl rfl rfl (v_mv rfl rfl) ?_
 refine a_splitv (d := 66) (t := decide (((i : Int) : Int) > 0)) rfl (fun h10_ => ?_) (fun h10_ => ?_)
 have h10_d := of_decide_eq_true h10_
 have h10_f : decide ((i : Int) > 0) = true := h10_
 refine a_v 22 rfl (by kernel_rfl) (by kernel_rfl) (by kernel_rfl) rfl rfl rfl (v_mv rfl rfl) ?_
 refine a_v 23 rfl (by kernel_rfl) (by kernel_rfl) (by kernel_rfl) rfl rfl rfl (v_mv rfl rfl) ?_
 refine a_v 24 rfl (by kernel_rfl) (by kernel_rfl) (by kernel_rfl) rfl rfl rfl (OpV.cast (v := .int .i64 ((i - 1 : Nat) : Int)) (v_ar rfl rfl rfl rfl) (subN (a := i) (b := 1) (by omega) (by omega))) ?_
 refine a_v 25 rfl (by kernel_rfl) (by kernel_rfl) (by kernel_rfl) rfl rfl rfl (v_iaK (i := 3) rfl Try.underlying44 SZ41 rfl rfl rfl rfl (by omega) (by omega)) ?_
 refine a_v 26 rfl (by kernel_rfl) (by kernel_rfl) (by kernel_rfl) rfl rfl rfl (v_ldK (v := .int .u64 (rd x.f6.f3 ((i - 1 : Nat) : Int))) 0 3 rfl Try.underlying41 rfl rfl rfl rfl (by omega) (by omega) (fun w K h => h)) ?_
 refine a_v 27 rfl (by kernel_rfl) (by kernel_rfl) (by kernel_rfl) rfl rfl rfl (v_mv rfl rfl) ?_
 refine a_v 28 rfl (by kernel_rfl) (by kernel_rfl) (by kernel_rfl) rfl rfl rfl (v_mv rfl rfl) ?_
 refine a_v 29 rfl (by kernel_rfl) (by kernel_rfl) (by kernel_rfl) rfl rfl rfl (v_iaK (i := 3) rfl Try.underlying44 SZ41 rfl rfl rfl rfl (by omega) (by omega)) ?_
 refine a_v 30 rfl (by kernel_rfl) (by kernel_rfl) (by kernel_rfl) rfl rfl rfl (v_ldK (v := .int .u64 (rd x.f6.f3 (i : Int))) 0 3 rfl Try.underlying41 rfl rfl rfl rfl (by omega) (by omega) (fun w K h => h)) ?_
 refine a_v 31 rfl (by kernel_rfl) (by kernel_rfl) (by kernel_rfl) rfl rfl rfl (v_ar rfl rfl rfl rfl) ?_
 refine a_v 32 rfl (by kernel_rfl) (by kernel_rfl) (by kernel_rfl) rfl rfl rfl (v_pick rfl rfl rfl rfl) ?_
 refine a_v 33 rfl (by kernel_rfl) (by kernel_rfl) (by kernel_rfl) rfl rfl rfl (v_pick rfl rfl rfl rfl) ?_
 refine a_end (by kernel_rfl) ?_
 refine q_seq ?_
 refine c_cond (t := decide ((rd x.f6.f3 ((i - 1 : Nat) : Int) : Int) ≥ (rd x.f6.f3 (i : Int)))) rfl rfl (fun h11_ => ?_) (fun h11_ => ?_)
 have h11_d := of_decide_eq_true h11_
 have h11_f : decide (rd x.f6.f3 ((i : Int) - 1) ≥ rd x.f6.f3 (i : Int)) = true := by have h_ := h11_; rwa [show ((i - 1 : Nat) : Int) = (i : Int) - 1 by omega] at h_
 refine c_seq rfl ?_
 refine r_ord (l := [0]) rfl (by kernel_rfl) (by kernel_rfl) ?_
 refine s_v rfl rfl rfl rfl (v_as rfl rfl) ?_
 refine s_end ?_
 refine q_seq ?_
 refine c_ret rfl ?_
 refine q_then_ret ?_
 refine q_block_ret ?_
 refine q_then_ret ?_
 refine q_then_ret ?_
 refine q_block_ret ?_
 refine q_then_ret ?_
 refine q_take [] rfl (by decide) ?_
 rw [okR_bad3 hil (show okKey x i = false by unfold okKey; rw [h8_f, h9_f, h10_f, h11_f]; rfl)] at hX
 exact q_post rfl (.cons rfl (.nil)) hX
 have h11_d := of_decide_eq_false h11_
 have h11_f : decide (rd x.f6.f3 ((i : Int) - 1) ≥ rd x.f6.f3 (i : Int)) = false := by have h_ := h11_; rwa [show ((i - 1 : Nat) : Int) = (i : Int) - 1 by omega] at h_
 refine c_skip rfl ?_
 refine q_seq ?_
 refine c_seq rfl ?_
 refine r_ord (l := [0]) rfl (by kernel_rfl) (by kernel_rfl) ?_
 refine s_v rfl rfl rfl rfl (v_as rfl rfl) ?_
 refine s_end ?_
 refine q_seq ?_
 refine c_seq rfl ?_
 refine c_seq rfl ?_
 refine r_ord (l := [0]) rfl (by kernel_rfl) (by kernel_rfl) ?_
 refine s_v rfl rfl rfl rfl (v_as rfl rfl) ?_
 refine s_end ?_
 refine q_seq ?_
 refine c_block rfl ?_
 refine c_loop (σ := (Nat × Bool)) (fun s : (Nat × Bool) => match s with | (j, once) => j ≤ (timesL l x l.length).length ∧ once = ((timesL l x l.length).take j).any (fun t => (getM (mapF l t (ordL l)) (rd x.f6.f3 (i : Int))).2.1)) (fun s : (Nat × Bool) => match s with | (j, once) => (timesL l x l.length).length - j) (fun s : (Nat × Bool) => match s with | (j, once) => [(0, .slice A l.length c), (3, .pointer (some ⟨b1_, 0, none⟩)), (5, .slice AE x.f6.f3.length cE), (6, .int .i64 0), (7, .slice A5_ ((timesL l x l.length).length) c6_), (8, .int .i64 (i : Int)), (10, .int .i64 (j : Int)), (9, .bool once)]) (fun s : (Nat × Bool) => match s with | (j, once) => [.f (KC (Kd.int .i64) A5_ c6_ (timesL l x l.length)), .b b1_ (.cells #[.int .i64 x.f0, .int .i64 x.f1.f0, .int .u64 x.f1.f1, .int .u64 x.f1.f2, .int .i64 x.f1.f3, .int .i64 x.f1.f4, .int .i64 x.f2, .int .i64 x.f3, .int .i64 x.f4, .bool x.f5, .bool x.f6.f0, .bool x.f6.f1, .int .u64 x.f6.f2, .slice AE x.f6.f3.length cE] 48 (0, 0)), .f (KC k48 A c l), .f (KC (Kd.int .u64) AE cE x.f6.f3)]) (0, false) [0, 1, 2, 3] rfl ⟨Nat.zero_le _, rfl⟩ (subF_spec ⟨rfl, rfl, rfl, rfl, rfl, rfl, rfl, rfl, trivial⟩) rfl (by decide) ?_
 rintro ⟨j, once⟩ hs
 have hs : j ≤ (timesL l x l.length).length ∧ once = ((timesL l x l.length).take j).any (fun t => (getM (mapF l t (ordL l)) (rd x.f6.f3 (i : Int))).2.1) := hs
 have hj_ := hs.1
 have hs3 := hs.2
 have htl := times_len l x l.length
 refine c_seq rfl ?_
 refine c_seq rfl ?_
 refine r_ord (l := [0, 1, 2, 3]) rfl (by kernel_rfl) (by kernel_rfl) ?_
 refine s_v rfl rfl rfl rfl (v_mv rfl rfl) ?_
 refine s_v rfl rfl rfl rfl (v_mv rfl rfl) ?_
 refine s_v rfl rfl rfl rfl (v_len rfl rfl rfl Try.underlying25 rfl rfl) ?_
 refine s_v rfl rfl rfl rfl (v_ar rfl rfl rfl rfl) ?_
 refine s_end ?_
 refine q_seq ?_
 refine c_cond (t := decide (((j : Int) : Int) < ((timesL l x l.length).length : Nat))) rfl rfl (fun h12_ => ?_) (fun h12_ => ?_)
 have h12_d := of_decide_eq_true h12_
 have hjl : j < (timesL l x l.length).length := by omega
 have hst := any_nextG (p := (fun t => (getM (mapF l t (ordL l)) (rd x.f6.f3 (i : Int))).2.1)) hjl
 rw [← rdI hjl] at hst
 refine c_skip rfl ?_
 refine q_seq ?_
 refine c_seq rfl ?_
 refine c_block rfl ?_
 refine r_any [.f (KC (Kd.int .i64) A5_ c6_ (timesL l x l.length)), .b b1_ (.cells #[.int .i64 x.f0, .int .i64 x.f1.f0, .int .u64 x.f1.f1, .int .u64 x.f1.f2, .int .i64 x.f1.f3, .int .i64 x.f1.f4, .int .i64 x.f2, .int .i64 x.f3, .int .i64 x.f4, .bool x.f5, .bool x.f6.f0, .bool x.f6.f1, .int .u64 x.f6.f2, .slice AE x.f6.f3.length cE] 48 (0, 0)), .f (KC k48 A c l), .f (KC (Kd.int .u64) AE cE x.f6.f3)] (by kernel_rfl) rfl (by kernel_rfl) (mem_pick (idx := [0, 1, 2, 3]) rfl) ?_
 refine a_v 0 rfl (by kernel_rfl) (by kernel_rfl) (by kernel_rfl) rfl rfl rfl (v_mv rfl rfl) ?_
 refine a_v 1 rfl (by kernel_rfl) (by kernel_rfl) (by kernel_rfl) rfl rfl rfl (v_mv rfl rfl) ?_
 refine a_splitv (d := 86) (t := once) rfl (fun h13_ => ?_) (fun h13_ => ?_)
 refine a_no 2 rfl (by kernel_rfl) (by kernel_rfl) (by kernel_rfl) rfl rfl rfl ?_
 refine a_no 3 rfl (by kernel_rfl) (by kernel_rfl) (by kernel_rfl) rfl rfl rfl ?_
 refine a_no 4 rfl (by kernel_rfl) (by kernel_rfl) (by kernel_rfl) rfl rfl rfl ?_
 refine a_no 5 rfl (by kernel_rfl) (by kernel_rfl) (by kernel_rfl) rfl rfl rfl ?_
 refine a_no 6 rfl (by kernel_rfl) (by kernel_rfl) (by kernel_rfl) rfl rfl rfl ?_
 refine a_no 7 rfl (by kernel_rfl) (by kernel_rfl) (by kernel_rfl) rfl rfl rfl ?_
 refine a_no 8 rfl (by kernel_rfl) (by kernel_rfl) (by kernel_rfl) rfl rfl rfl ?_
 refine a_no 9 rfl (by kernel_rfl) (by kernel_rfl) (by kernel_rfl) rfl rfl rfl ?_
 refine a_no 10 rfl (by kernel_rfl) (by kernel_rfl) (by kernel_rfl) rfl rfl rfl ?_
 refine a_no 11 rfl (by kernel_rfl) (by kernel_rfl) (by kernel_rfl) rfl rfl rfl ?_
 refine a_no 12 rfl (by kernel_rfl) (by kernel_rfl) (by kernel_rfl) rfl rfl rfl ?_
 refine a_v 13 rfl (by kernel_rfl) (by kernel_rfl) (by kernel_rfl) rfl rfl rfl (v_pick rfl rfl rfl rfl) ?_
 refine a_v 14 rfl (by kernel_rfl) (by kernel_rfl) (by kernel_rfl) rfl rfl rfl (v_as rfl rfl) ?_
 refine a_end (by kernel_rfl) ?_
 refine q_block ?_
 refine q_seq ?_
 refine r_ord (l := [0, 1, 2]) rfl (by kernel_rfl) (by kernel_rfl) ?_
 refine s_v rfl rfl rfl rfl (v_mv rfl rfl) ?_
 refine s_v rfl rfl rfl rfl (OpV.cast (v := .int .i64 ((j + 1 : Nat) : Int)) (v_ar rfl rfl rfl rfl) (addN (a := j) (b := 1) (by omega))) ?_
 refine s_v rfl rfl rfl rfl (v_as rfl rfl) ?_
 refine s_end ?_
 exact q_again (j + 1, true) [0, 1, 2, 3] ⟨by omega, by rw [hst, ← hs3, h13_, Bool.true_or]⟩ (by dsimp only; omega) (subF_spec ⟨rfl, rfl, rfl, rfl, rfl, rfl, rfl, rfl, trivial⟩) rfl (by decide)
 refine a_v 2 rfl (by kernel_rfl) (by kernel_rfl) (by kernel_rfl) rfl rfl rfl (v_mv rfl rfl) ?_
 refine a_v 3 rfl (by kernel_rfl) (by kernel_rfl) (by kernel_rfl) rfl rfl rfl (v_mv rfl rfl) ?_
 refine a_v 4 rfl (by kernel_rfl) (by kernel_rfl) (by kernel_rfl) rfl rfl rfl (v_mv rfl rfl) ?_
 refine a_v 5 rfl (by kernel_rfl) (by kernel_rfl) (by kernel_rfl) rfl rfl rfl (v_iaK (i := 0) rfl Try.underlying25 SZ3 rfl rfl rfl rfl (by omega) (by omega)) ?_
 refine a_v 6 rfl (by kernel_rfl) (by kernel_rfl) (by kernel_rfl) rfl rfl rfl (v_ldK (v := .int .i64 (rd (timesL l x l.length) (j : Int))) 0 0 rfl Try.underlying3 rfl rfl rfl rfl (by omega) (by omega) (fun w K h => h)) ?_
 refine a_v 8 rfl (by kernel_rfl) (by kernel_rfl) (by kernel_rfl) rfl rfl rfl (v_mv rfl rfl) ?_
 refine a_v 9 rfl (by kernel_rfl) (by kernel_rfl) (by kernel_rfl) rfl rfl rfl (v_mv rfl rfl) ?_
 refine a_v 10 rfl (by kernel_rfl) (by kernel_rfl) (by kernel_rfl) rfl rfl rfl (v_iaK (i := 3) rfl Try.underlying44 SZ41 rfl rfl rfl rfl (by omega) (by omega)) ?_
 refine a_v 11 rfl (by kernel_rfl) (by kernel_rfl) (by kernel_rfl) rfl rfl rfl (v_ldK (v := .int .u64 (rd x.f6.f3 (i : Int))) 0 3 rfl Try.underlying41 rfl rfl rfl rfl (by omega) (by omega) (fun w K h => h)) ?_
 refine a_1 (i := 7) (by kernel_rfl) ?_
 refine i_e rfl rfl (e_callF [2] #[.slice A l.length c, .int .i64 (rd (timesL l x l.length) (j : Int))] rfl rfl rfl rfl rfl Try.func18 rfl (by decide) rfl rfl rfl rfl (fun w ht => rmap_con A c l (rd (timesL l x l.length) (j : Int)) (by omega) w _)) ?_
 intro A14_ c15_
 refine ⟨(mem_pick (idx := [1, 2, 3, 4]) rfl), ?_⟩
 refine a_1 (i := 12) (by kernel_rfl) ?_
 refine i_e rfl rfl (e_callK (fun z : Unit => .bool ((getM (mapF l (rd (timesL l x l.length) (j : Int)) (ordL l)) (rd x.f6.f3 (i : Int))).2.1)) (fun z => []) #[.slice A14_ (((mapF l (rd (timesL l x l.length) (j : Int)) (ordL l)).map old).length) c15_, .int .u64 (rd x.f6.f3 (i : Int))] rfl rfl rfl rfl rfl Try.func61 rfl (by decide) rfl rfl (fun w ht => stepstoneref08_has.con 5000 _ _ _ (rd x.f6.f3 (i : Int)) _ (hasr_f (mapF l (rd (timesL l x l.length) (j : Int)) (ordL l)) (rd x.f6.f3 (i : Int)) (mapF_len (by omega) _)) w (Tri.fact ht 0 rfl))) ?_
 intro z16_
 refine ⟨(mem_pick (idx := [1, 2, 3, 4]) rfl), ?_⟩
 refine a_v 13 rfl (by kernel_rfl) (by kernel_rfl) (by kernel_rfl) rfl rfl rfl (v_pick rfl rfl rfl rfl) ?_
 refine a_v 14 rfl (by kernel_rfl) (by kernel_rfl) (by kernel_rfl) rfl rfl rfl (v_as rfl rfl) ?_
 refine a_end (by kernel_rfl) ?_
 refine q_block ?_
 refine q_seq ?_
 refine r_ord (l := [0, 1, 2]) rfl (by kernel_rfl) (by kernel_rfl) ?_
 refine s_v rfl rfl rfl rfl (v_mv rfl rfl) ?_
 refine s_v rfl rfl rfl rfl (OpV.cast (v := .int .i64 ((j + 1 : Nat) : Int)) (v_ar rfl rfl rfl rfl) (addN (a := j) (b := 1) (by omega))) ?_
 refine s_v rfl rfl rfl rfl (v_as rfl rfl) ?_
 refine s_end ?_
 exact q_again (j + 1, (getM (mapF l (rd (timesL l x l.length) ((j : Nat) : Int)) (ordL l)) (rd x.f6.f3 ((i : Nat) : Int))).2.1) [1, 2, 3, 4] ⟨by omega, by rw [hst, ← hs3, h13_, Bool.false_or]⟩ (by dsimp only; omega) (subF_spec ⟨rfl, rfl, rfl, rfl, rfl, rfl, rfl, rfl, trivial⟩) rfl (by decide)
 have h12_d := of_decide_eq_false h12_
 have honc0 : once = onceL l x (rd x.f6.f3 (i : Int)) := by rw [once_times]; have h_ := hs.2; rwa [show j = (timesL l x l.length).length by omega, List.take_length] at h_
 refine c_exit (i := 2) rfl rfl ?_
 refine q_then_exit ?_
 refine q_then_exit ?_
 refine q_block_here rfl ?_
 refine q_seq ?_
 refine c_seq rfl ?_
 refine r_ord (l := [0, 1]) rfl (by kernel_rfl) (by kernel_rfl) ?_
 refine s_v rfl rfl rfl rfl (v_mv rfl rfl) ?_
 refine s_v rfl rfl rfl rfl (v_not rfl rfl) ?_
 refine s_end ?_
 refine q_seq ?_
 refine c_cond (t := !once) rfl rfl (fun h17_ => ?_) (fun h17_ => ?_)
 have h17_f : once = false := by simpa using h17_
 refine c_seq rfl ?_
 refine r_ord (l := [0]) rfl (by kernel_rfl) (by kernel_rfl) ?_
 refine s_v rfl rfl rfl rfl (v_as rfl rfl) ?_
 refine s_end ?_
 refine q_seq ?_
 refine c_ret rfl ?_
 refine q_block_ret ?_
 refine q_then_ret ?_
 refine q_then_ret ?_
 refine q_block_ret ?_
 refine q_then_ret ?_
 refine q_take [] rfl (by decide) ?_
 rw [okR_bad4 hil (show onceL l x (rd x.f6.f3 (i : Int)) = false by rw [← honc0]; exact h17_f)] at hX
 exact q_post rfl (.cons rfl (.nil)) hX
 have h17_f : once = true := by simpa using h17_
 refine c_skip rfl ?_
 refine q_block ?_
 refine q_seq ?_
 refine r_ord (l := [0, 1, 2]) rfl (by kernel_rfl) (by kernel_rfl) ?_
 refine s_v rfl rfl rfl rfl (v_mv rfl rfl) ?_
 refine s_v rfl rfl rfl rfl (OpV.cast (v := .int .i64 ((i + 1 : Nat) : Int)) (v_ar rfl rfl rfl rfl) (addN (a := i) (b := 1) (by omega))) ?_
 refine s_v rfl rfl rfl rfl (v_as rfl rfl) ?_
 refine s_end ?_
 have hok : okKey x i = true := by unfold okKey; rw [h8_f, h9_f, h10_f, h11_f]; rfl
 have hon : onceL l x (rd x.f6.f3 (i : Int)) = true := by rw [← honc0]; exact h17_f
 exact q_again (i + 1) [0, 1, 2, 3] ⟨by omega, range_next (n := 0) hs1.2.1 hok, anyI_next' hil hs1.2.2 (by rw [hon]; rfl)⟩ (by show x.f6.f3.length - (i + 1) < x.f6.f3.length - i; omega) (subF_spec ⟨rfl, rfl, rfl, rfl, rfl, rfl, trivial⟩) rfl (by decide)
 have h10_d := of_decide_eq_false h10_
 have h10_f : decide ((i : Int) > 0) = false := h10_
 refine a_no 22 rfl (by kernel_rfl) (by kernel_rfl) (by kernel_rfl) rfl rfl rfl ?_
 refine a_no 23 rfl (by kernel_rfl) (by kernel_rfl) (by kernel_rfl) rfl rfl rfl ?_
 refine a_no 24 rfl (by kernel_rfl) (by kernel_rfl) (by kernel_rfl) rfl rfl rfl ?_
 refine a_no 25 rfl (by kernel_rfl) (by kernel_rfl) (by kernel_rfl) rfl rfl rfl ?_
 refine a_no 26 rfl (by kernel_rfl) (by kernel_rfl) (by kernel_rfl) rfl rfl rfl ?_
 refine a_no 27 rfl (by kernel_rfl) (by kernel_rfl) (by kernel_rfl) rfl rfl rfl ?_
 refine a_no 28 rfl (by kernel_rfl) (by kernel_rfl) (by kernel_rfl) rfl rfl rfl ?_
 refine a_no 29 rfl (by kernel_rfl) (by kernel_rfl) (by kernel_rfl) rfl rfl rfl ?_
 refine a_no 30 rfl (by kernel_rfl) (by kernel_rfl) (by kernel_rfl) rfl rfl rfl ?_
 refine a_no 31 rfl (by kernel_rfl) (by kernel_rfl) (by kernel_rfl) rfl rfl rfl ?_
 refine a_v 32 rfl (by kernel_rfl) (by kernel_rfl) (by kernel_rfl) rfl rfl rfl (v_pick rfl rfl rfl rfl) ?_
 refine a_v 33 rfl (by kernel_rfl) (by kernel_rfl) (by kernel_rfl) rfl rfl rfl (v_pick rfl rfl rfl rfl) ?_
 refine a_end (by kernel_rfl) ?_
 refine q_seq ?_
 refine c_cond0 rfl rfl ?_
 refine c_skip rfl ?_
 refine q_seq ?_
 refine c_seq rfl ?_
 refine r_ord (l := [0]) rfl (by kernel_rfl) (by kernel_rfl) ?_
 refine s_v rfl rfl rfl rfl (v_as rfl rfl) ?_
 refine s_end ?_
 refine q_seq ?_
 refine c_seq rfl ?_
 refine c_seq rfl ?_
 refine r_ord (l := [0]) rfl (by kernel_rfl) (by kernel_rfl) ?_
 refine s_v rfl rfl rfl rfl (v_as rfl rfl) ?_
 refine s_end ?_
 refine q_seq ?_
 refine c_block rfl ?_
 refine c_loop (σ := (Nat × Bool)) (fun s : (Nat × Bool) => match s with | (j, once) => j ≤ (timesL l x l.length).length ∧ once = ((timesL l x l.length).take j).any (fun t => (getM (mapF l t (ordL l)) (rd x.f6.f3 (i : Int))).2.1)) (fun s : (Nat × Bool) => match s with | (j, once) => (timesL l x l.length).length - j) (fun s : (Nat × Bool) => match s with | (j, once) => [(0, .slice A l.length c), (3, .pointer (some ⟨b1_, 0, none⟩)), (5, .slice AE x.f6.f3.length cE), (6, .int .i64 0), (7, .slice A5_ ((timesL l x l.length).length) c6_), (8, .int .i64 (i : Int)), (10, .int .i64 (j : Int)), (9, .bool once)]) (fun s : (Nat × Bool) => match s with | (j, once) => [.f (KC (Kd.int .i64) A5_ c6_ (timesL l x l.length)), .b b1_ (.cells #[.int .i64 x.f0, .int .i64 x.f1.f0, .int .u64 x.f1.f1, .int .u64 x.f1.f2, .int .i64 x.f1.f3, .int .i64 x.f1.f4, .int .i64 x.f2, .int .i64 x.f3, .int .i64 x.f4, .bool x.f5, .bool x.f6.f0, .bool x.f6.f1, .int .u64 x.f6.f2, .slice AE x.f6.f3.length cE] 48 (0, 0)), .f (KC k48 A c l), .f (KC (Kd.int .u64) AE cE x.f6.f3)]) (0, false) [0, 1, 2, 3] rfl ⟨Nat.zero_le _, rfl⟩ (subF_spec ⟨rfl, rfl, rfl, rfl, rfl, rfl, rfl, rfl, trivial⟩) rfl (by decide) ?_
 rintro ⟨j, once⟩ hs
 have hs : j ≤ (timesL l x l.length).length ∧ once = ((timesL l x l.length).take j).any (fun t => (getM (mapF l t (ordL l)) (rd x.f6.f3 (i : Int))).2.1) := hs
 have hj_ := hs.1
 have hs3 := hs.2
 have htl := times_len l x l.length
 refine c_seq rfl ?_
 refine c_seq rfl ?_
 refine r_ord (l := [0, 1, 2, 3]) rfl (by kernel_rfl) (by kernel_rfl) ?_
 refine s_v rfl rfl rfl rfl (v_mv rfl rfl) ?_
 refine s_v rfl rfl rfl rfl (v_mv rfl rfl) ?_
 refine s_v rfl rfl rfl rfl (v_len rfl rfl rfl Try.underlying25 rfl rfl) ?_
 refine s_v rfl rfl rfl rfl (v_ar rfl rfl rfl rfl) ?_
 refine s_end ?_
 refine q_seq ?_
 refine c_cond (t := decide (((j : Int) : Int) < ((timesL l x l.length).length : Nat))) rfl rfl (fun h18_ => ?_) (fun h18_ => ?_)
 have h18_d := of_decide_eq_true h18_
 have hjl : j < (timesL l x l.length).length := by omega
 have hst := any_nextG (p := (fun t => (getM (mapF l t (ordL l)) (rd x.f6.f3 (i : Int))).2.1)) hjl
 rw [← rdI hjl] at hst
 refine c_skip rfl ?_
 refine q_seq ?_
 refine c_seq rfl ?_
 refine c_block rfl ?_
 refine r_any [.f (KC (Kd.int .i64) A5_ c6_ (timesL l x l.length)), .b b1_ (.cells #[.int .i64 x.f0, .int .i64 x.f1.f0, .int .u64 x.f1.f1, .int .u64 x.f1.f2, .int .i64 x.f1.f3, .int .i64 x.f1.f4, .int .i64 x.f2, .int .i64 x.f3, .int .i64 x.f4, .bool x.f5, .bool x.f6.f0, .bool x.f6.f1, .int .u64 x.f6.f2, .slice AE x.f6.f3.length cE] 48 (0, 0)), .f (KC k48 A c l), .f (KC (Kd.int .u64) AE cE x.f6.f3)] (by kernel_rfl) rfl (by kernel_rfl) (mem_pick (idx := [0, 1, 2, 3]) rfl) ?_
 refine a_v 0 rfl (by kernel_rfl) (by kernel_rfl) (by kernel_rfl) rfl rfl rfl (v_mv rfl rfl) ?_
 refine a_v 1 rfl (by kernel_rfl) (by kernel_rfl) (by kernel_rfl) rfl rfl rfl (v_mv rfl rfl) ?_
 refine a_splitv (d := 86) (t := once) rfl (fun h19_ => ?_) (fun h19_ => ?_)
 refine a_no 2 rfl (by kernel_rfl) (by kernel_rfl) (by kernel_rfl) rfl rfl rfl ?_
 refine a_no 3 rfl (by kernel_rfl) (by kernel_rfl) (by kernel_rfl) rfl rfl rfl ?_
 refine a_no 4 rfl (by kernel_rfl) (by kernel_rfl) (by kernel_rfl) rfl rfl rfl ?_
 refine a_no 5 rfl (by kernel_rfl) (by kernel_rfl) (by kernel_rfl) rfl rfl rfl ?_
 refine a_no 6 rfl (by kernel_rfl) (by kernel_rfl) (by kernel_rfl) rfl rfl rfl ?_
 refine a_no 7 rfl (by kernel_rfl) (by kernel_rfl) (by kernel_rfl) rfl rfl rfl ?_
 refine a_no 8 rfl (by kernel_rfl) (by kernel_rfl) (by kernel_rfl) rfl rfl rfl ?_
 refine a_no 9 rfl (by kernel_rfl) (by kernel_rfl) (by kernel_rfl) rfl rfl rfl ?_
 refine a_no 10 rfl (by kernel_rfl) (by kernel_rfl) (by kernel_rfl) rfl rfl rfl ?_
 refine a_no 11 rfl (by kernel_rfl) (by kernel_rfl) (by kernel_rfl) rfl rfl rfl ?_
 refine a_no 12 rfl (by kernel_rfl) (by kernel_rfl) (by kernel_rfl) rfl rfl rfl ?_
 refine a_v 13 rfl (by kernel_rfl) (by kernel_rfl) (by kernel_rfl) rfl rfl rfl (v_pick rfl rfl rfl rfl) ?_
 refine a_v 14 rfl (by kernel_rfl) (by kernel_rfl) (by kernel_rfl) rfl rfl rfl (v_as rfl rfl) ?_
 refine a_end (by kernel_rfl) ?_
 refine q_block ?_
 refine q_seq ?_
 refine r_ord (l := [0, 1, 2]) rfl (by kernel_rfl) (by kernel_rfl) ?_
 refine s_v rfl rfl rfl rfl (v_mv rfl rfl) ?_
 refine s_v rfl rfl rfl rfl (OpV.cast (v := .int .i64 ((j + 1 : Nat) : Int)) (v_ar rfl rfl rfl rfl) (addN (a := j) (b := 1) (by omega))) ?_
 refine s_v rfl rfl rfl rfl (v_as rfl rfl) ?_
 refine s_end ?_
 exact q_again (j + 1, true) [0, 1, 2, 3] ⟨by omega, by rw [hst, ← hs3, h19_, Bool.true_or]⟩ (by dsimp only; omega) (subF_spec ⟨rfl, rfl, rfl, rfl, rfl, rfl, rfl, rfl, trivial⟩) rfl (by decide)
 refine a_v 2 rfl (by kernel_rfl) (by kernel_rfl) (by kernel_rfl) rfl rfl rfl (v_mv rfl rfl) ?_
 refine a_v 3 rfl (by kernel_rfl) (by kernel_rfl) (by kernel_rfl) rfl rfl rfl (v_mv rfl rfl) ?_
 refine a_v 4 rfl (by kernel_rfl) (by kernel_rfl) (by kernel_rfl) rfl rfl rfl (v_mv rfl rfl) ?_
 refine a_v 5 rfl (by kernel_rfl) (by kernel_rfl) (by kernel_rfl) rfl rfl rfl (v_iaK (i := 0) rfl Try.underlying25 SZ3 rfl rfl rfl rfl (by omega) (by omega)) ?_
 refine a_v 6 rfl (by kernel_rfl) (by kernel_rfl) (by kernel_rfl) rfl rfl rfl (v_ldK (v := .int .i64 (rd (timesL l x l.length) (j : Int))) 0 0 rfl Try.underlying3 rfl rfl rfl rfl (by omega) (by omega) (fun w K h => h)) ?_
 refine a_v 8 rfl (by kernel_rfl) (by kernel_rfl) (by kernel_rfl) rfl rfl rfl (v_mv rfl rfl) ?_
 refine a_v 9 rfl (by kernel_rfl) (by kernel_rfl) (by kernel_rfl) rfl rfl rfl (v_mv rfl rfl) ?_
 refine a_v 10 rfl (by kernel_rfl) (by kernel_rfl) (by kernel_rfl) rfl rfl rfl (v_iaK (i := 3) rfl Try.underlying44 SZ41 rfl rfl rfl rfl (by omega) (by omega)) ?_
 refine a_v 11 rfl (by kernel_rfl) (by kernel_rfl) (by kernel_rfl) rfl rfl rfl (v_ldK (v := .int .u64 (rd x.f6.f3 (i : Int))) 0 3 rfl Try.underlying41 rfl rfl rfl rfl (by omega) (by omega) (fun w K h => h)) ?_
 refine a_1 (i := 7) (by kernel_rfl) ?_
 refine i_e rfl rfl (e_callF [2] #[.slice A l.length c, .int .i64 (rd (timesL l x l.length) (j : Int))] rfl rfl rfl rfl rfl Try.func18 rfl (by decide) rfl rfl rfl rfl (fun w ht => rmap_con A c l (rd (timesL l x l.length) (j : Int)) (by omega) w _)) ?_
 intro A20_ c21_
 refine ⟨(mem_pick (idx := [1, 2, 3, 4]) rfl), ?_⟩
 refine a_1 (i := 12) (by kernel_rfl) ?_
 refine i_e rfl rfl (e_callK (fun z : Unit => .bool ((getM (mapF l (rd (timesL l x l.length) (j : Int)) (ordL l)) (rd x.f6.f3 (i : Int))).2.1)) (fun z => []) #[.slice A20_ (((mapF l (rd (timesL l x l.length) (j : Int)) (ordL l)).map old).length) c21_, .int .u64 (rd x.f6.f3 (i : Int))] rfl rfl rfl rfl rfl Try.func61 rfl (by decide) rfl rfl (fun w ht => stepstoneref08_has.con 5000 _ _ _ (rd x.f6.f3 (i : Int)) _ (hasr_f (mapF l (rd (timesL l x l.length) (j : Int)) (ordL l)) (rd x.f6.f3 (i : Int)) (mapF_len (by omega) _)) w (Tri.fact ht 0 rfl))) ?_
 intro z22_
 refine ⟨(mem_pick (idx := [1, 2, 3, 4]) rfl), ?_⟩
 refine a_v 13 rfl (by kernel_rfl) (by kernel_rfl) (by kernel_rfl) rfl rfl rfl (v_pick rfl rfl rfl rfl) ?_
 refine a_v 14 rfl (by kernel_rfl) (by kernel_rfl) (by kernel_rfl) rfl rfl rfl (v_as rfl rfl) ?_
 refine a_end (by kernel_rfl) ?_
 refine q_block ?_
 refine q_seq ?_
 refine r_ord (l := [0, 1, 2]) rfl (by kernel_rfl) (by kernel_rfl) ?_
 refine s_v rfl rfl rfl rfl (v_mv rfl rfl) ?_
 refine s_v rfl rfl rfl rfl (OpV.cast (v := .int .i64 ((j + 1 : Nat) : Int)) (v_ar rfl rfl rfl rfl) (addN (a := j) (b := 1) (by omega))) ?_
 refine s_v rfl rfl rfl rfl (v_as rfl rfl) ?_
 refine s_end ?_
 exact q_again (j + 1, (getM (mapF l (rd (timesL l x l.length) ((j : Nat) : Int)) (ordL l)) (rd x.f6.f3 ((i : Nat) : Int))).2.1) [1, 2, 3, 4] ⟨by omega, by rw [hst, ← hs3, h19_, Bool.false_or]⟩ (by dsimp only; omega) (subF_spec ⟨rfl, rfl, rfl, rfl, rfl, rfl, rfl, rfl, trivial⟩) rfl (by decide)
 have h18_d := of_decide_eq_false h18_
 have honc0 : once = onceL l x (rd x.f6.f3 (i : Int)) := by rw [once_times]; have h_ := hs.2; rwa [show j = (timesL l x l.length).length by omega, List.take_length] at h_
 refine c_exit (i := 2) rfl rfl ?_
 refine q_then_exit ?_
 refine q_then_exit ?_
 refine q_block_here rfl ?_
 refine q_seq ?_
 refine c_seq rfl ?_
 refine r_ord (l := [0, 1]) rfl (by kernel_rfl) (by kernel_rfl) ?_
 refine s_v rfl rfl rfl rfl (v_mv rfl rfl) ?_
 refine s_v rfl rfl rfl rfl (v_not rfl rfl) ?_
 refine s_end ?_
 refine q_seq ?_
 refine c_cond (t := !once) rfl rfl (fun h23_ => ?_) (fun h23_ => ?_)
 have h23_f : once = false := by simpa using h23_
 refine c_seq rfl ?_
 refine r_ord (l := [0]) rfl (by kernel_rfl) (by kernel_rfl) ?_
 refine s_v rfl rfl rfl rfl (v_as rfl rfl) ?_
 refine s_end ?_
 refine q_seq ?_
 refine c_ret rfl ?_
 refine q_block_ret ?_
 refine q_then_ret ?_
 refine q_then_ret ?_
 refine q_block_ret ?_
 refine q_then_ret ?_
 refine q_take [] rfl (by decide) ?_
 rw [okR_bad4 hil (show onceL l x (rd x.f6.f3 (i : Int)) = false by rw [← honc0]; exact h23_f)] at hX
 exact q_post rfl (.cons rfl (.nil)) hX
 have h23_f : once = true := by simpa using h23_
 refine c_skip rfl ?_
 refine q_block ?_
 refine q_seq ?_
 refine r_ord (l := [0, 1, 2]) rfl (by kernel_rfl) (by kernel_rfl) ?_
 refine s_v rfl rfl rfl rfl (v_mv rfl rfl) ?_
 refine s_v rfl rfl rfl rfl (OpV.cast (v := .int .i64 ((i + 1 : Nat) : Int)) (v_ar rfl rfl rfl rfl) (addN (a := i) (b := 1) (by omega))) ?_
 refine s_v rfl rfl rfl rfl (v_as rfl rfl) ?_
 refine s_end ?_
 have hok : okKey x i = true := by unfold okKey; rw [h8_f, h9_f, h10_f]; rfl
 have hon : onceL l x (rd x.f6.f3 (i : Int)) = true := by rw [← honc0]; exact h23_f
 exact q_again (i + 1) [0, 1, 2, 3] ⟨by omega, range_next (n := 0) hs1.2.1 hok, anyI_next' hil hs1.2.2 (by rw [hon]; rfl)⟩ (by show x.f6.f3.length - (i + 1) < x.f6.f3.length - i; omega) (subF_spec ⟨rfl, rfl, rfl, rfl, rfl, rfl, trivial⟩) rfl (by decide)
 have h7_d := of_decide_eq_false h7_
 have hkeys : (List.range x.f6.f3.length).all (okKey x) = true := by have h_ := hs.2.1; rwa [show i = x.f6.f3.length by omega] at h_
 have honce : x.f6.f3.any (fun k => !(onceL l x k)) = false := any_noneI (i := i) (by omega) hs.2.2
 refine c_exit (i := 0) rfl rfl ?_
 refine q_then_exit ?_
 refine q_then_exit ?_
 refine q_block_here rfl ?_
 refine q_seq ?_
 refine c_seq rfl ?_
 refine r_ord (l := [0, 1, 2, 3, 4]) rfl (by kernel_rfl) (by kernel_rfl) ?_
 refine s_v rfl rfl rfl rfl (v_mv rfl rfl) ?_
 refine s_v rfl rfl rfl rfl (v_fa rfl Try.underlying48 rfl SZ3 rfl) ?_
 refine s_v rfl rfl rfl rfl (v_ld 1 rfl Try.underlying3 rfl rfl rfl rfl) ?_
 refine s_e rfl rfl (e_callF [2] #[.slice A l.length c, .int .i64 x.f2] rfl rfl rfl rfl rfl Try.func18 rfl (by decide) rfl rfl rfl rfl (fun w ht => rmap_con A c l x.f2 (by omega) w _)) ?_
 intro A24_ c25_
 refine s_v rfl rfl rfl rfl (v_as rfl rfl) ?_
 refine s_end ?_
 refine q_seq ?_
 refine c_seq rfl ?_
 refine c_seq rfl ?_
 refine r_ord (l := [0]) rfl (by kernel_rfl) (by kernel_rfl) ?_
 refine s_v rfl rfl rfl rfl (v_as rfl rfl) ?_
 refine s_end ?_
 refine q_seq ?_
 refine c_block rfl ?_
 refine c_loop (σ := Nat) (fun p => p ≤ (mapF l x.f2 (ordL l)).length ∧ ((mapF l x.f2 (ordL l)).take p).all (fun y : S56 => !(pairBad l x y.f0)) = true) (fun p => (mapF l x.f2 (ordL l)).length - p) (fun p => [(0, .slice A l.length c), (3, .pointer (some ⟨b1_, 0, none⟩)), (5, .slice AE x.f6.f3.length cE), (6, .int .i64 0), (7, .slice A5_ ((timesL l x l.length).length) c6_), (11, .slice A24_ (((mapF l x.f2 (ordL l)).map old).length) c25_), (12, .int .i64 (p : Int))]) (fun p => [.f (KC k61 A24_ c25_ ((mapF l x.f2 (ordL l)).map old)), .f (KC (Kd.int .i64) A5_ c6_ (timesL l x l.length)), .b b1_ (.cells #[.int .i64 x.f0, .int .i64 x.f1.f0, .int .u64 x.f1.f1, .int .u64 x.f1.f2, .int .i64 x.f1.f3, .int .i64 x.f1.f4, .int .i64 x.f2, .int .i64 x.f3, .int .i64 x.f4, .bool x.f5, .bool x.f6.f0, .bool x.f6.f1, .int .u64 x.f6.f2, .slice AE x.f6.f3.length cE] 48 (0, 0)), .f (KC k48 A c l), .f (KC (Kd.int .u64) AE cE x.f6.f3)]) 0 [0, 1, 2, 3, 4] rfl ⟨Nat.zero_le _, rfl⟩ (subF_spec ⟨rfl, rfl, rfl, rfl, rfl, rfl, rfl, trivial⟩) rfl (by decide) ?_
 rintro p hs
 have hp_ : p ≤ (mapF l x.f2 (ordL l)).length := hs.1
 have hs1 := hs
 have hml := mapF_len (l := l) (by omega) x.f2
 refine c_seq rfl ?_
 refine c_seq rfl ?_
 refine r_ord (l := [0, 1, 2, 3]) rfl (by kernel_rfl) (by kernel_rfl) ?_
 refine s_v rfl rfl rfl rfl (v_mv rfl rfl) ?_
 refine s_v rfl rfl rfl rfl (v_mv rfl rfl) ?_
 refine s_v rfl rfl rfl rfl (v_len rfl rfl rfl Try.underlying31 rfl rfl) ?_
 refine s_v rfl rfl rfl rfl (v_ar rfl rfl rfl rfl) ?_
 refine s_end ?_
 refine q_seq ?_
 refine c_cond (t := decide (((p : Int) : Int) < (((mapF l x.f2 (ordL l)).map old).length : Nat))) rfl rfl (fun h26_ => ?_) (fun h26_ => ?_)
 have h26_d := of_decide_eq_true h26_
 have hpl0 : p < ((mapF l x.f2 (ordL l)).map old).length := by omega
 have hpl : p < (mapF l x.f2 (ordL l)).length := by simpa using hpl0
 have hpo := rdo hpl
 refine c_skip rfl ?_
 refine q_seq ?_
 refine c_seq rfl ?_
 refine c_block rfl ?_
 refine c_seq rfl ?_
 refine r_ord (l := [0, 1, 2, 3, 4, 5]) rfl (by kernel_rfl) (by kernel_rfl) ?_
 refine s_v rfl rfl rfl rfl (v_mv rfl rfl) ?_
 refine s_v rfl rfl rfl rfl (v_mv rfl rfl) ?_
 refine s_v rfl rfl rfl rfl (v_iaK (i := 0) rfl Try.underlying31 SZ61 rfl rfl rfl rfl (by omega) (by omega)) ?_
 refine s_v rfl rfl rfl rfl (v_fax rfl Try.underlying61 rfl SZ41 rfl) ?_
 refine s_v rfl rfl rfl rfl (v_ldKf (v := .int .u64 ((rd_T61 ((mapF l x.f2 (ordL l)).map old) (p : Int)).f0)) z61 [.int .u64 ((rd_T61 ((mapF l x.f2 (ordL l)).map old) (p : Int)).f0), .int .u64 ((rd_T61 ((mapF l x.f2 (ordL l)).map old) (p : Int)).f1)] 0 rfl Try.underlying41 rfl rfl rfl rfl (by omega) (by omega) (fun w K h => k61_open h) rfl) ?_
 refine s_v rfl rfl rfl rfl (v_as rfl rfl) ?_
 refine s_end ?_
 refine q_seq ?_
 refine c_seq rfl ?_
 refine r_ord (l := [0, 1, 2, 3, 4, 5, 6, 7, 8, 9, 10, 11, 12]) rfl (by kernel_rfl) (by kernel_rfl) ?_
 refine s_v rfl rfl rfl rfl (v_mv rfl rfl) ?_
 refine s_v rfl rfl rfl rfl (v_fa rfl Try.underlying48 rfl SZ43 rfl) ?_
 refine s_v rfl rfl rfl rfl (v_fa rfl Try.underlying43 rfl SZ41 rfl) ?_
 refine s_v rfl rfl rfl rfl (v_ld 2 rfl Try.underlying41 rfl rfl rfl rfl) ?_
 refine s_v rfl rfl rfl rfl (v_ar rfl rfl rfl rfl) ?_
 refine s_v rfl rfl rfl rfl (v_mv rfl rfl) ?_
 refine s_splitv (d := 121) (t := decide (((rd_T61 ((mapF l x.f2 (ordL l)).map old) (p : Int)).f0 : Int) ≥ x.f1.f1)) rfl (fun h27_ => ?_) (fun h27_ => ?_)
 have h27_d := of_decide_eq_true h27_
 have h27_f : decide ((rd_T61 ((mapF l x.f2 (ordL l)).map old) (p : Int)).f0 ≥ x.f1.f1) = true := h27_
 refine s_vg rfl rfl rfl rfl (v_mv rfl rfl) ?_
 refine s_vg rfl rfl rfl rfl (v_fa rfl Try.underlying48 rfl SZ43 rfl) ?_
 refine s_vg rfl rfl rfl rfl (v_fa rfl Try.underlying43 rfl SZ41 rfl) ?_
 refine s_vg rfl rfl rfl rfl (v_ld 2 rfl Try.underlying41 rfl rfl rfl rfl) ?_
 refine s_vg rfl rfl rfl rfl (v_ar rfl rfl rfl rfl) ?_
 refine s_v rfl rfl rfl rfl (v_pick rfl rfl rfl rfl) ?_
 refine s_v rfl rfl rfl rfl (v_as rfl rfl) ?_
 refine s_end ?_
 refine q_seq ?_
 refine c_seq rfl ?_
 refine c_seq rfl ?_
 refine r_ord (l := [0]) rfl (by kernel_rfl) (by kernel_rfl) ?_
 refine s_v rfl rfl rfl rfl (v_as rfl rfl) ?_
 refine s_end ?_
 refine q_seq ?_
 refine c_block rfl ?_
 refine c_loop (σ := (Nat × Bool)) (fun s : (Nat × Bool) => match s with | (j, always) => j ≤ (timesL l x l.length).length ∧ always = ((decide (((rd_T61 ((mapF l x.f2 (ordL l)).map old) (p : Int)).f0 : Int) ≤ x.f1.f2)) && ((timesL l x l.length).take j).all (fun t => (getM (mapF l t (ordL l)) ((rd_T61 ((mapF l x.f2 (ordL l)).map old) (p : Int)).f0)).2.1))) (fun s : (Nat × Bool) => match s with | (j, always) => (timesL l x l.length).length - j) (fun s : (Nat × Bool) => match s with | (j, always) => [(0, .slice A l.length c), (3, .pointer (some ⟨b1_, 0, none⟩)), (5, .slice AE x.f6.f3.length cE), (6, .int .i64 0), (7, .slice A5_ ((timesL l x l.length).length) c6_), (11, .slice A24_ (((mapF l x.f2 (ordL l)).map old).length) c25_), (12, .int .i64 (p : Int)), (13, .int .u64 ((rd_T61 ((mapF l x.f2 (ordL l)).map old) (p : Int)).f0)), (15, .int .i64 (j : Int)), (14, .bool always)]) (fun s : (Nat × Bool) => match s with | (j, always) => [.f (KC k61 A24_ c25_ ((mapF l x.f2 (ordL l)).map old)), .f (KC (Kd.int .i64) A5_ c6_ (timesL l x l.length)), .b b1_ (.cells #[.int .i64 x.f0, .int .i64 x.f1.f0, .int .u64 x.f1.f1, .int .u64 x.f1.f2, .int .i64 x.f1.f3, .int .i64 x.f1.f4, .int .i64 x.f2, .int .i64 x.f3, .int .i64 x.f4, .bool x.f5, .bool x.f6.f0, .bool x.f6.f1, .int .u64 x.f6.f2, .slice AE x.f6.f3.length cE] 48 (0, 0)), .f (KC k48 A c l), .f (KC (Kd.int .u64) AE cE x.f6.f3)]) (0, decide (((rd_T61 ((mapF l x.f2 (ordL l)).map old) (p : Int)).f0 : Int) ≤ x.f1.f2)) [0, 1, 2, 3, 4] rfl ⟨Nat.zero_le _, by simp⟩ (subF_spec ⟨rfl, rfl, rfl, rfl, rfl, rfl, rfl, rfl, rfl, rfl, trivial⟩) rfl (by decide) ?_
 rintro ⟨j, always⟩ hs
 have hs : j ≤ (timesL l x l.length).length ∧ always = ((decide (((rd_T61 ((mapF l x.f2 (ordL l)).map old) ((p : Nat) : Int)).f0 : Int) ≤ x.f1.f2)) && ((timesL l x l.length).take j).all (fun t => (getM (mapF l t (ordL l)) ((rd_T61 ((mapF l x.f2 (ordL l)).map old) (p : Int)).f0)).2.1)) := hs
 have hj_ := hs.1
 have hs3 := hs.2
 have htl := times_len l x l.length
 refine c_seq rfl ?_
 refine c_seq rfl ?_
 refine r_ord (l := [0, 1, 2, 3]) rfl (by kernel_rfl) (by kernel_rfl) ?_
 refine s_v rfl rfl rfl rfl (v_mv rfl rfl) ?_
 refine s_v rfl rfl rfl rfl (v_mv rfl rfl) ?_
 refine s_v rfl rfl rfl rfl (v_len rfl rfl rfl Try.underlying25 rfl rfl) ?_
 refine s_v rfl rfl rfl rfl (v_ar rfl rfl rfl rfl) ?_
 refine s_end ?_
 refine q_seq ?_
 refine c_cond (t := decide (((j : Int) : Int) < ((timesL l x l.length).length : Nat))) rfl rfl (fun h28_ => ?_) (fun h28_ => ?_)
 have h28_d := of_decide_eq_true h28_
 have hjl : j < (timesL l x l.length).length := by omega
 have hst := all_nextE (p := (fun t => (getM (mapF l t (ordL l)) ((rd_T61 ((mapF l x.f2 (ordL l)).map old) (p : Int)).f0)).2.1)) hjl
 rw [← rdI hjl] at hst
 refine c_skip rfl ?_
 refine q_seq ?_
 refine c_seq rfl ?_
 refine c_block rfl ?_
 refine r_ord (l := [0, 1, 2, 3, 4, 5, 6, 7, 8, 9, 10, 11]) rfl (by kernel_rfl) (by kernel_rfl) ?_
 refine s_v rfl rfl rfl rfl (v_mv rfl rfl) ?_
 refine s_v rfl rfl rfl rfl (v_mv rfl rfl) ?_
 refine s_splitv (d := 135) (t := always) rfl (fun h29_ => ?_) (fun h29_ => ?_)
 refine s_vg rfl rfl rfl rfl (v_mv rfl rfl) ?_
 refine s_vg rfl rfl rfl rfl (v_mv rfl rfl) ?_
 refine s_vg rfl rfl rfl rfl (v_mv rfl rfl) ?_
 refine s_vg rfl rfl rfl rfl (v_iaK (i := 1) rfl Try.underlying25 SZ3 rfl rfl rfl rfl (by omega) (by omega)) ?_
 refine s_vg rfl rfl rfl rfl (v_ldK (v := .int .i64 (rd (timesL l x l.length) (j : Int))) 0 1 rfl Try.underlying3 rfl rfl rfl rfl (by omega) (by omega) (fun w K h => h)) ?_
 refine s_eg rfl rfl (e_callF [3] #[.slice A l.length c, .int .i64 (rd (timesL l x l.length) (j : Int))] rfl rfl rfl rfl rfl Try.func18 rfl (by decide) rfl rfl rfl rfl (fun w ht => rmap_con A c l (rd (timesL l x l.length) (j : Int)) (by omega) w _)) ?_
 intro A30_ c31_
 refine s_vg rfl rfl rfl rfl (v_mv rfl rfl) ?_
 refine s_eg rfl rfl (e_callK (fun z : Unit => .bool ((getM (mapF l (rd (timesL l x l.length) (j : Int)) (ordL l)) ((rd_T61 ((mapF l x.f2 (ordL l)).map old) (p : Int)).f0)).2.1)) (fun z => []) #[.slice A30_ (((mapF l (rd (timesL l x l.length) (j : Int)) (ordL l)).map old).length) c31_, .int .u64 ((rd_T61 ((mapF l x.f2 (ordL l)).map old) (p : Int)).f0)] rfl rfl rfl rfl rfl Try.func61 rfl (by decide) rfl rfl (fun w ht => stepstoneref08_has.con 5000 _ _ _ ((rd_T61 ((mapF l x.f2 (ordL l)).map old) (p : Int)).f0) _ (hasr_f (mapF l (rd (timesL l x l.length) (j : Int)) (ordL l)) ((rd_T61 ((mapF l x.f2 (ordL l)).map old) (p : Int)).f0) (mapF_len (by omega) _)) w (Tri.fact ht 0 rfl))) ?_
 intro z32_
 refine s_v rfl rfl rfl rfl (v_pick rfl rfl rfl rfl) ?_
 refine s_v rfl rfl rfl rfl (v_as rfl rfl) ?_
 refine s_end ?_
 refine q_block ?_
 refine q_seq ?_
 refine r_ord (l := [0, 1, 2]) rfl (by kernel_rfl) (by kernel_rfl) ?_
 refine s_v rfl rfl rfl rfl (v_mv rfl rfl) ?_
 refine s_v rfl rfl rfl rfl (OpV.cast (v := .int .i64 ((j + 1 : Nat) : Int)) (v_ar rfl rfl rfl rfl) (addN (a := j) (b := 1) (by omega))) ?_
 refine s_v rfl rfl rfl rfl (v_as rfl rfl) ?_
 refine s_end ?_
 exact q_again (j + 1, (getM (mapF l (rd (timesL l x l.length) ((j : Nat) : Int)) (ordL l)) ((rd_T61 ((mapF l x.f2 (ordL l)).map old) ((p : Nat) : Int)).f0)).2.1) [1, 2, 3, 4, 5] ⟨by omega, by rw [hst, ← Bool.and_assoc, ← hs3, h29_, Bool.true_and]⟩ (by dsimp only; omega) (subF_spec ⟨rfl, rfl, rfl, rfl, rfl, rfl, rfl, rfl, rfl, rfl, trivial⟩) rfl (by decide)
 refine s_no rfl rfl rfl rfl ?_
 refine s_no rfl rfl rfl rfl ?_
 refine s_no rfl rfl rfl rfl ?_
 refine s_no rfl rfl rfl rfl ?_
 refine s_no rfl rfl rfl rfl ?_
 refine s_no rfl rfl rfl rfl ?_
 refine s_no rfl rfl rfl rfl ?_
 refine s_no rfl rfl rfl rfl ?_
 refine s_v rfl rfl rfl rfl (v_pick rfl rfl rfl rfl) ?_
 refine s_v rfl rfl rfl rfl (v_as rfl rfl) ?_
 refine s_end ?_
 refine q_block ?_
 refine q_seq ?_
 refine r_ord (l := [0, 1, 2]) rfl (by kernel_rfl) (by kernel_rfl) ?_
 refine s_v rfl rfl rfl rfl (v_mv rfl rfl) ?_
 refine s_v rfl rfl rfl rfl (OpV.cast (v := .int .i64 ((j + 1 : Nat) : Int)) (v_ar rfl rfl rfl rfl) (addN (a := j) (b := 1) (by omega))) ?_
 refine s_v rfl rfl rfl rfl (v_as rfl rfl) ?_
 refine s_end ?_
 exact q_again (j + 1, false) [0, 1, 2, 3, 4] ⟨by omega, by rw [hst, ← Bool.and_assoc, ← hs3, h29_, Bool.false_and]⟩ (by dsimp only; omega) (subF_spec ⟨rfl, rfl, rfl, rfl, rfl, rfl, rfl, rfl, rfl, rfl, trivial⟩) rfl (by decide)
 have h28_d := of_decide_eq_false h28_
 have halw : always = ((decide (((rd_T61 ((mapF l x.f2 (ordL l)).map old) ((p : Nat) : Int)).f0 : Int) ≤ x.f1.f2)) && alwaysL l x ((rd_T61 ((mapF l x.f2 (ordL l)).map old) (p : Int)).f0)) := by rw [always_times]; have h_ := hs.2; rwa [show j = (timesL l x l.length).length by omega, List.take_length] at h_
 refine c_exit (i := 6) rfl rfl ?_
 refine q_then_exit ?_
 refine q_then_exit ?_
 refine q_block_here rfl ?_
 refine q_seq ?_
 refine c_seq rfl ?_
 refine r_ord (l := [0, 1, 2, 3, 4, 5, 6, 7, 8, 9, 10, 11, 12, 13, 14, 15, 16, 17]) rfl (by kernel_rfl) (by kernel_rfl) ?_
 refine s_v rfl rfl rfl rfl (v_mv rfl rfl) ?_
 refine s_v rfl rfl rfl rfl (v_len rfl rfl rfl Try.underlying44 rfl rfl) ?_
 refine s_v rfl rfl rfl rfl (v_mv rfl rfl) ?_
 refine s_v rfl rfl rfl rfl (v_ar rfl rfl rfl rfl) ?_
 refine s_v rfl rfl rfl rfl (v_mv rfl rfl) ?_
 refine s_splitv (d := 149) (t := ((x.f6.f3.length : Nat) : Int) == 0) rfl (fun h33_ => ?_) (fun h33_ => ?_)
 have h33_d : (x.f6.f3.length : Nat) = 0 := by simpa using h33_
 refine s_vg rfl rfl rfl rfl (v_mv rfl rfl) ?_
 refine s_vg rfl rfl rfl rfl (v_ar rfl rfl rfl rfl) ?_
 refine s_vg rfl rfl rfl rfl (v_mv rfl rfl) ?_
 refine s_splitv (d := 152) (t := (0 : Int) == 0) rfl (fun h34_ => ?_) (fun h34_ => ?_)
 refine s_no rfl rfl rfl rfl ?_
 refine s_no rfl rfl rfl rfl ?_
 refine s_no rfl rfl rfl rfl ?_
 refine s_no rfl rfl rfl rfl ?_
 refine s_no rfl rfl rfl rfl ?_
 refine s_no rfl rfl rfl rfl ?_
 refine s_no rfl rfl rfl rfl ?_
 refine s_vg rfl rfl rfl rfl (v_pick rfl rfl rfl rfl) ?_
 refine s_v rfl rfl rfl rfl (v_pick rfl rfl rfl rfl) ?_
 refine s_v rfl rfl rfl rfl (v_as rfl rfl) ?_
 refine s_end ?_
 refine q_seq ?_
 refine c_seq rfl ?_
 refine r_ord (l := [0, 1, 2, 3, 4, 5, 6, 7, 8, 9, 10]) rfl (by kernel_rfl) (by kernel_rfl) ?_
 refine s_v rfl rfl rfl rfl (v_mv rfl rfl) ?_
 refine s_v rfl rfl rfl rfl (v_mv rfl rfl) ?_
 refine s_splitv (d := 163) (t := always) rfl (fun h35_ => ?_) (fun h35_ => ?_)
 refine s_vg rfl rfl rfl rfl (v_mv rfl rfl) ?_
 refine s_vg rfl rfl rfl rfl (v_not rfl rfl) ?_
 refine s_v rfl rfl rfl rfl (v_pick rfl rfl rfl rfl) ?_
 refine s_v rfl rfl rfl rfl (v_mv rfl rfl) ?_
 refine s_no rfl rfl rfl rfl ?_
 refine s_no rfl rfl rfl rfl ?_
 refine s_no rfl rfl rfl rfl ?_
 refine s_no rfl rfl rfl rfl ?_
 refine s_v rfl rfl rfl rfl (v_pick rfl rfl rfl rfl) ?_
 refine s_end ?_
 refine q_seq ?_
 refine c_cond0 rfl rfl ?_
 refine c_skip rfl ?_
 refine q_block ?_
 refine q_seq ?_
 refine r_ord (l := [0, 1, 2]) rfl (by kernel_rfl) (by kernel_rfl) ?_
 refine s_v rfl rfl rfl rfl (v_mv rfl rfl) ?_
 refine s_v rfl rfl rfl rfl (OpV.cast (v := .int .i64 ((p + 1 : Nat) : Int)) (v_ar rfl rfl rfl rfl) (addN (a := p) (b := 1) (by omega))) ?_
 refine s_v rfl rfl rfl rfl (v_as rfl rfl) ?_
 refine s_end ?_
 have hbey : beyondB x (rd_T61 ((mapF l x.f2 (ordL l)).map old) (p : Int)).f0 = true := by unfold beyondB; rw [decide_eq_true (show (x.f6.f3.length : Int) ≥ mx 0 x.f1.f3 by rw [hmx]; omega), show ((x.f6.f3.length : Int) == 0) = true by rw [beq_iff_eq]; omega]; rfl
 have hpb : pairBad l x (rd_T61 ((mapF l x.f2 (ordL l)).map old) (p : Int)).f0 = false := by unfold pairBad; rw [h27_f, Bool.true_and, ← Bool.and_assoc, ← halw, h35_, hbey]; rfl
 rw [hpo] at hpb
 exact q_again (p + 1) [0, 1, 2, 3, 4] ⟨by omega, all_nextG hpl hs1.2 (by rw [hpb]; rfl)⟩ (by show (mapF l x.f2 (ordL l)).length - (p + 1) < (mapF l x.f2 (ordL l)).length - p; omega) (subF_spec ⟨rfl, rfl, rfl, rfl, rfl, rfl, rfl, trivial⟩) rfl (by decide)
 refine s_no rfl rfl rfl rfl ?_
 refine s_no rfl rfl rfl rfl ?_
 refine s_v rfl rfl rfl rfl (v_pick rfl rfl rfl rfl) ?_
 refine s_v rfl rfl rfl rfl (v_mv rfl rfl) ?_
 refine s_no rfl rfl rfl rfl ?_
 refine s_no rfl rfl rfl rfl ?_
 refine s_no rfl rfl rfl rfl ?_
 refine s_no rfl rfl rfl rfl ?_
 refine s_v rfl rfl rfl rfl (v_pick rfl rfl rfl rfl) ?_
 refine s_end ?_
 refine q_seq ?_
 refine c_cond0 rfl rfl ?_
 refine c_skip rfl ?_
 refine q_block ?_
 refine q_seq ?_
 refine r_ord (l := [0, 1, 2]) rfl (by kernel_rfl) (by kernel_rfl) ?_
 refine s_v rfl rfl rfl rfl (v_mv rfl rfl) ?_
 refine s_v rfl rfl rfl rfl (OpV.cast (v := .int .i64 ((p + 1 : Nat) : Int)) (v_ar rfl rfl rfl rfl) (addN (a := p) (b := 1) (by omega))) ?_
 refine s_v rfl rfl rfl rfl (v_as rfl rfl) ?_
 refine s_end ?_
 have hpb : pairBad l x (rd_T61 ((mapF l x.f2 (ordL l)).map old) (p : Int)).f0 = false := by unfold pairBad; rw [h27_f, Bool.true_and, ← Bool.and_assoc, ← halw, h35_]; rfl
 rw [hpo] at hpb
 exact q_again (p + 1) [0, 1, 2, 3, 4] ⟨by omega, all_nextG hpl hs1.2 (by rw [hpb]; rfl)⟩ (by show (mapF l x.f2 (ordL l)).length - (p + 1) < (mapF l x.f2 (ordL l)).length - p; omega) (subF_spec ⟨rfl, rfl, rfl, rfl, rfl, rfl, rfl, trivial⟩) rfl (by decide)
 exact absurd h34_ (by decide)
 have h33_d : (x.f6.f3.length : Nat) ≠ 0 := by simpa using h33_
 refine s_no rfl rfl rfl rfl ?_
 refine s_no rfl rfl rfl rfl ?_
 refine s_no rfl rfl rfl rfl ?_
 refine s_no rfl rfl rfl rfl ?_
 refine s_no rfl rfl rfl rfl ?_
 refine s_no rfl rfl rfl rfl ?_
 refine s_no rfl rfl rfl rfl ?_
 refine s_no rfl rfl rfl rfl ?_
 refine s_no rfl rfl rfl rfl ?_
 refine s_no rfl rfl rfl rfl ?_
 refine s_no rfl rfl rfl rfl ?_
 refine s_v rfl rfl rfl rfl (v_pick rfl rfl rfl rfl) ?_
 refine s_v rfl rfl rfl rfl (v_as rfl rfl) ?_
 refine s_end ?_
 refine q_seq ?_
 refine c_seq rfl ?_
 refine r_ord (l := [0, 1, 2, 3, 4, 5, 6, 7, 8, 9, 10]) rfl (by kernel_rfl) (by kernel_rfl) ?_
 refine s_v rfl rfl rfl rfl (v_mv rfl rfl) ?_
 refine s_v rfl rfl rfl rfl (v_mv rfl rfl) ?_
 refine s_splitv (d := 163) (t := always) rfl (fun h36_ => ?_) (fun h36_ => ?_)
 refine s_vg rfl rfl rfl rfl (v_mv rfl rfl) ?_
 refine s_vg rfl rfl rfl rfl (v_not rfl rfl) ?_
 refine s_v rfl rfl rfl rfl (v_pick rfl rfl rfl rfl) ?_
 refine s_v rfl rfl rfl rfl (v_mv rfl rfl) ?_
 refine s_vg rfl rfl rfl rfl (v_mv rfl rfl) ?_
 refine s_vg rfl rfl rfl rfl (v_mv rfl rfl) ?_
 refine s_eg rfl rfl (e_callK (fun z : Unit => .bool (x.f6.f3.contains ((rd_T61 ((mapF l x.f2 (ordL l)).map old) (p : Int)).f0))) (fun z => []) #[.slice AE x.f6.f3.length cE, .int .u64 ((rd_T61 ((mapF l x.f2 (ordL l)).map old) (p : Int)).f0)] rfl rfl rfl rfl rfl Try.func62 rfl (by decide) rfl rfl (fun w ht => stepstoneref08_in.con 5000 _ _ x.f6.f3 ((rd_T61 ((mapF l x.f2 (ordL l)).map old) (p : Int)).f0) _ (in_f x.f6.f3 ((rd_T61 ((mapF l x.f2 (ordL l)).map old) (p : Int)).f0) (by omega)) w (Tri.fact ht 4 rfl))) ?_
 intro z37_
 refine s_vg rfl rfl rfl rfl (v_not rfl rfl) ?_
 refine s_v rfl rfl rfl rfl (v_pick rfl rfl rfl rfl) ?_
 refine s_end ?_
 refine q_seq ?_
 refine c_cond (t := !(x.f6.f3.contains ((rd_T61 ((mapF l x.f2 (ordL l)).map old) (p : Int)).f0))) rfl rfl (fun h38_ => ?_) (fun h38_ => ?_)
 refine c_seq rfl ?_
 refine r_ord (l := [0]) rfl (by kernel_rfl) (by kernel_rfl) ?_
 refine s_v rfl rfl rfl rfl (v_as rfl rfl) ?_
 refine s_end ?_
 refine q_seq ?_
 refine c_ret rfl ?_
 refine q_block_ret ?_
 refine q_then_ret ?_
 refine q_then_ret ?_
 refine q_block_ret ?_
 refine q_then_ret ?_
 refine q_take [] rfl (by decide) ?_
 have hbey : beyondB x (rd_T61 ((mapF l x.f2 (ordL l)).map old) (p : Int)).f0 = false := by unfold beyondB; rw [decide_eq_false (show ¬ (x.f6.f3.length : Int) ≥ mx 0 x.f1.f3 by rw [hmx]; omega)]; rfl
 have hpb : pairBad l x (rd_T61 ((mapF l x.f2 (ordL l)).map old) (p : Int)).f0 = true := by unfold pairBad; rw [h27_f, Bool.true_and, ← Bool.and_assoc, ← halw, h36_, hbey, show x.f6.f3.contains (rd_T61 ((mapF l x.f2 (ordL l)).map old) (p : Int)).f0 = false by simpa using h38_]; rfl
 rw [hpo] at hpb
 rw [okR_bad5 hpl hpb] at hX
 exact q_post rfl (.cons rfl (.nil)) hX
 refine c_skip rfl ?_
 refine q_block ?_
 refine q_seq ?_
 refine r_ord (l := [0, 1, 2]) rfl (by kernel_rfl) (by kernel_rfl) ?_
 refine s_v rfl rfl rfl rfl (v_mv rfl rfl) ?_
 refine s_v rfl rfl rfl rfl (OpV.cast (v := .int .i64 ((p + 1 : Nat) : Int)) (v_ar rfl rfl rfl rfl) (addN (a := p) (b := 1) (by omega))) ?_
 refine s_v rfl rfl rfl rfl (v_as rfl rfl) ?_
 refine s_end ?_
 have hbey : beyondB x (rd_T61 ((mapF l x.f2 (ordL l)).map old) (p : Int)).f0 = false := by unfold beyondB; rw [decide_eq_false (show ¬ (x.f6.f3.length : Int) ≥ mx 0 x.f1.f3 by rw [hmx]; omega)]; rfl
 have hpb : pairBad l x (rd_T61 ((mapF l x.f2 (ordL l)).map old) (p : Int)).f0 = false := by unfold pairBad; rw [h27_f, Bool.true_and, ← Bool.and_assoc, ← halw, h36_, hbey, show x.f6.f3.contains (rd_T61 ((mapF l x.f2 (ordL l)).map old) (p : Int)).f0 = true by simpa using h38_]; rfl
 rw [hpo] at hpb
 exact q_again (p + 1) [0, 1, 2, 3, 4] ⟨by omega, all_nextG hpl hs1.2 (by rw [hpb]; rfl)⟩ (by show (mapF l x.f2 (ordL l)).length - (p + 1) < (mapF l x.f2 (ordL l)).length - p; omega) (subF_spec ⟨rfl, rfl, rfl, rfl, rfl, rfl, rfl, trivial⟩) rfl (by decide)
 refine s_no rfl rfl rfl rfl ?_
 refine s_no rfl rfl rfl rfl ?_
 refine s_v rfl rfl rfl rfl (v_pick rfl rfl rfl rfl) ?_
 refine s_v rfl rfl rfl rfl (v_mv rfl rfl) ?_
 refine s_no rfl rfl rfl rfl ?_
 refine s_no rfl rfl rfl rfl ?_
 refine s_no rfl rfl rfl rfl ?_
 refine s_no rfl rfl rfl rfl ?_
 refine s_v rfl rfl rfl rfl (v_pick rfl rfl rfl rfl) ?_
 refine s_end ?_
 refine q_seq ?_
 refine c_cond0 rfl rfl ?_
 refine c_skip rfl ?_
 refine q_block ?_
 refine q_seq ?_
 refine r_ord (l := [0, 1, 2]) rfl (by kernel_rfl) (by kernel_rfl) ?_
 refine s_v rfl rfl rfl rfl (v_mv rfl rfl) ?_
 refine s_v rfl rfl rfl rfl (OpV.cast (v := .int .i64 ((p + 1 : Nat) : Int)) (v_ar rfl rfl rfl rfl) (addN (a := p) (b := 1) (by omega))) ?_
 refine s_v rfl rfl rfl rfl (v_as rfl rfl) ?_
 refine s_end ?_
 have hpb : pairBad l x (rd_T61 ((mapF l x.f2 (ordL l)).map old) (p : Int)).f0 = false := by unfold pairBad; rw [h27_f, Bool.true_and, ← Bool.and_assoc, ← halw, h36_]; rfl
 rw [hpo] at hpb
 exact q_again (p + 1) [0, 1, 2, 3, 4] ⟨by omega, all_nextG hpl hs1.2 (by rw [hpb]; rfl)⟩ (by show (mapF l x.f2 (ordL l)).length - (p + 1) < (mapF l x.f2 (ordL l)).length - p; omega) (subF_spec ⟨rfl, rfl, rfl, rfl, rfl, rfl, rfl, trivial⟩) rfl (by decide)
 have h27_d := of_decide_eq_false h27_
 have h27_f : decide ((rd_T61 ((mapF l x.f2 (ordL l)).map old) (p : Int)).f0 ≥ x.f1.f1) = false := h27_
 refine s_no rfl rfl rfl rfl ?_
 refine s_no rfl rfl rfl rfl ?_
 refine s_no rfl rfl rfl rfl ?_
 refine s_no rfl rfl rfl rfl ?_
 refine s_no rfl rfl rfl rfl ?_
 refine s_v rfl rfl rfl rfl (v_pick rfl rfl rfl rfl) ?_
 refine s_v rfl rfl rfl rfl (v_as rfl rfl) ?_
 refine s_end ?_
 refine q_seq ?_
 refine c_seq rfl ?_
 refine c_seq rfl ?_
 refine r_ord (l := [0]) rfl (by kernel_rfl) (by kernel_rfl) ?_
 refine s_v rfl rfl rfl rfl (v_as rfl rfl) ?_
 refine s_end ?_
 refine q_seq ?_
 refine c_block rfl ?_
 refine c_loop (σ := (Nat × Bool)) (fun s : (Nat × Bool) => match s with | (j, always) => j ≤ (timesL l x l.length).length ∧ always = (false && ((timesL l x l.length).take j).all (fun t => (getM (mapF l t (ordL l)) ((rd_T61 ((mapF l x.f2 (ordL l)).map old) (p : Int)).f0)).2.1))) (fun s : (Nat × Bool) => match s with | (j, always) => (timesL l x l.length).length - j) (fun s : (Nat × Bool) => match s with | (j, always) => [(0, .slice A l.length c), (3, .pointer (some ⟨b1_, 0, none⟩)), (5, .slice AE x.f6.f3.length cE), (6, .int .i64 0), (7, .slice A5_ ((timesL l x l.length).length) c6_), (11, .slice A24_ (((mapF l x.f2 (ordL l)).map old).length) c25_), (12, .int .i64 (p : Int)), (13, .int .u64 ((rd_T61 ((mapF l x.f2 (ordL l)).map old) (p : Int)).f0)), (15, .int .i64 (j : Int)), (14, .bool always)]) (fun s : (Nat × Bool) => match s with | (j, always) => [.f (KC k61 A24_ c25_ ((mapF l x.f2 (ordL l)).map old)), .f (KC (Kd.int .i64) A5_ c6_ (timesL l x l.length)), .b b1_ (.cells #[.int .i64 x.f0, .int .i64 x.f1.f0, .int .u64 x.f1.f1, .int .u64 x.f1.f2, .int .i64 x.f1.f3, .int .i64 x.f1.f4, .int .i64 x.f2, .int .i64 x.f3, .int .i64 x.f4, .bool x.f5, .bool x.f6.f0, .bool x.f6.f1, .int .u64 x.f6.f2, .slice AE x.f6.f3.length cE] 48 (0, 0)), .f (KC k48 A c l), .f (KC (Kd.int .u64) AE cE x.f6.f3)]) (0, false) [0, 1, 2, 3, 4] rfl ⟨Nat.zero_le _, by simp⟩ (subF_spec ⟨rfl, rfl, rfl, rfl, rfl, rfl, rfl, rfl, rfl, rfl, trivial⟩) rfl (by decide) ?_
 rintro ⟨j, always⟩ hs
 have hs : j ≤ (timesL l x l.length).length ∧ always = (false && ((timesL l x l.length).take j).all (fun t => (getM (mapF l t (ordL l)) ((rd_T61 ((mapF l x.f2 (ordL l)).map old) (p : Int)).f0)).2.1)) := hs
 have hj_ := hs.1
 have hs3 := hs.2
 have htl := times_len l x l.length
 refine c_seq rfl ?_
 refine c_seq rfl ?_
 refine r_ord (l := [0, 1, 2, 3]) rfl (by kernel_rfl) (by kernel_rfl) ?_
 refine s_v rfl rfl rfl rfl (v_mv rfl rfl) ?_
 refine s_v rfl rfl rfl rfl (v_mv rfl rfl) ?_
 refine s_v rfl rfl rfl rfl (v_len rfl rfl rfl Try.underlying25 rfl rfl) ?_
 refine s_v rfl rfl rfl rfl (v_ar rfl rfl rfl rfl) ?_
 refine s_end ?_
 refine q_seq ?_
 refine c_cond (t := decide (((j : Int) : Int) < ((timesL l x l.length).length : Nat))) rfl rfl (fun h39_ => ?_) (fun h39_ => ?_)
 have h39_d := of_decide_eq_true h39_
 have hjl : j < (timesL l x l.length).length := by omega
 have hst := all_nextE (p := (fun t => (getM (mapF l t (ordL l)) ((rd_T61 ((mapF l x.f2 (ordL l)).map old) (p : Int)).f0)).2.1)) hjl
 rw [← rdI hjl] at hst
 refine c_skip rfl ?_
 refine q_seq ?_
 refine c_seq rfl ?_
 refine c_block rfl ?_
 refine r_ord (l := [0, 1, 2, 3, 4, 5, 6, 7, 8, 9, 10, 11]) rfl (by kernel_rfl) (by kernel_rfl) ?_
 refine s_v rfl rfl rfl rfl (v_mv rfl rfl) ?_
 refine s_v rfl rfl rfl rfl (v_mv rfl rfl) ?_
 refine s_splitv (d := 135) (t := always) rfl (fun h40_ => ?_) (fun h40_ => ?_)
 refine s_vg rfl rfl rfl rfl (v_mv rfl rfl) ?_
 refine s_vg rfl rfl rfl rfl (v_mv rfl rfl) ?_
 refine s_vg rfl rfl rfl rfl (v_mv rfl rfl) ?_
 refine s_vg rfl rfl rfl rfl (v_iaK (i := 1) rfl Try.underlying25 SZ3 rfl rfl rfl rfl (by omega) (by omega)) ?_
 refine s_vg rfl rfl rfl rfl (v_ldK (v := .int .i64 (rd (timesL l x l.length) (j : Int))) 0 1 rfl Try.underlying3 rfl rfl rfl rfl (by omega) (by omega) (fun w K h => h)) ?_
 refine s_eg rfl rfl (e_callF [3] #[.slice A l.length c, .int .i64 (rd (timesL l x l.length) (j : Int))] rfl rfl rfl rfl rfl Try.func18 rfl (by decide) rfl rfl rfl rfl (fun w ht => rmap_con A c l (rd (timesL l x l.length) (j : Int)) (by omega) w _)) ?_
 intro A41_ c42_
 refine s_vg rfl rfl rfl rfl (v_mv rfl rfl) ?_
 refine s_eg rfl rfl (e_callK (fun z : Unit => .bool ((getM (mapF l (rd (timesL l x l.length) (j : Int)) (ordL l)) ((rd_T61 ((mapF l x.f2 (ordL l)).map old) (p : Int)).f0)).2.1)) (fun z => []) #[.slice A41_ (((mapF l (rd (timesL l x l.length) (j : Int)) (ordL l)).map old).length) c42_, .int .u64 ((rd_T61 ((mapF l x.f2 (ordL l)).map old) (p : Int)).f0)] rfl rfl rfl rfl rfl Try.func61 rfl (by decide) rfl rfl (fun w ht => stepstoneref08_has.con 5000 _ _ _ ((rd_T61 ((mapF l x.f2 (ordL l)).map old) (p : Int)).f0) _ (hasr_f (mapF l (rd (timesL l x l.length) (j : Int)) (ordL l)) ((rd_T61 ((mapF l x.f2 (ordL l)).map old) (p : Int)).f0) (mapF_len (by omega) _)) w (Tri.fact ht 0 rfl))) ?_
 intro z43_
 refine s_v rfl rfl rfl rfl (v_pick rfl rfl rfl rfl) ?_
 refine s_v rfl rfl rfl rfl (v_as rfl rfl) ?_
 refine s_end ?_
 refine q_block ?_
 refine q_seq ?_
 refine r_ord (l := [0, 1, 2]) rfl (by kernel_rfl) (by kernel_rfl) ?_
 refine s_v rfl rfl rfl rfl (v_mv rfl rfl) ?_
 refine s_v rfl rfl rfl rfl (OpV.cast (v := .int .i64 ((j + 1 : Nat) : Int)) (v_ar rfl rfl rfl rfl) (addN (a := j) (b := 1) (by omega))) ?_
 refine s_v rfl rfl rfl rfl (v_as rfl rfl) ?_
 refine s_end ?_
 exact q_again (j + 1, (getM (mapF l (rd (timesL l x l.length) ((j : Nat) : Int)) (ordL l)) ((rd_T61 ((mapF l x.f2 (ordL l)).map old) ((p : Nat) : Int)).f0)).2.1) [1, 2, 3, 4, 5] ⟨by omega, by rw [hst, ← Bool.and_assoc, ← hs3, h40_, Bool.true_and]⟩ (by dsimp only; omega) (subF_spec ⟨rfl, rfl, rfl, rfl, rfl, rfl, rfl, rfl, rfl, rfl, trivial⟩) rfl (by decide)
 refine s_no rfl rfl rfl rfl ?_
 refine s_no rfl rfl rfl rfl ?_
 refine s_no rfl rfl rfl rfl ?_
 refine s_no rfl rfl rfl rfl ?_
 refine s_no rfl rfl rfl rfl ?_
 refine s_no rfl rfl rfl rfl ?_
 refine s_no rfl rfl rfl rfl ?_
 refine s_no rfl rfl rfl rfl ?_
 refine s_v rfl rfl rfl rfl (v_pick rfl rfl rfl rfl) ?_
 refine s_v rfl rfl rfl rfl (v_as rfl rfl) ?_
 refine s_end ?_
 refine q_block ?_
 refine q_seq ?_
 refine r_ord (l := [0, 1, 2]) rfl (by kernel_rfl) (by kernel_rfl) ?_
 refine s_v rfl rfl rfl rfl (v_mv rfl rfl) ?_
 refine s_v rfl rfl rfl rfl (OpV.cast (v := .int .i64 ((j + 1 : Nat) : Int)) (v_ar rfl rfl rfl rfl) (addN (a := j) (b := 1) (by omega))) ?_
 refine s_v rfl rfl rfl rfl (v_as rfl rfl) ?_
 refine s_end ?_
 exact q_again (j + 1, false) [0, 1, 2, 3, 4] ⟨by omega, by rw [hst, ← Bool.and_assoc, ← hs3, h40_, Bool.false_and]⟩ (by dsimp only; omega) (subF_spec ⟨rfl, rfl, rfl, rfl, rfl, rfl, rfl, rfl, rfl, rfl, trivial⟩) rfl (by decide)
 have h39_d := of_decide_eq_false h39_
 have halw : always = (false && alwaysL l x ((rd_T61 ((mapF l x.f2 (ordL l)).map old) (p : Int)).f0)) := by rw [always_times]; have h_ := hs.2; rwa [show j = (timesL l x l.length).length by omega, List.take_length] at h_
 refine c_exit (i := 6) rfl rfl ?_
 refine q_then_exit ?_
 refine q_then_exit ?_
 refine q_block_here rfl ?_
 refine q_seq ?_
 refine c_seq rfl ?_
 refine r_ord (l := [0, 1, 2, 3, 4, 5, 6, 7, 8, 9, 10, 11, 12, 13, 14, 15, 16, 17]) rfl (by kernel_rfl) (by kernel_rfl) ?_
 refine s_v rfl rfl rfl rfl (v_mv rfl rfl) ?_
 refine s_v rfl rfl rfl rfl (v_len rfl rfl rfl Try.underlying44 rfl rfl) ?_
 refine s_v rfl rfl rfl rfl (v_mv rfl rfl) ?_
 refine s_v rfl rfl rfl rfl (v_ar rfl rfl rfl rfl) ?_
 refine s_v rfl rfl rfl rfl (v_mv rfl rfl) ?_
 refine s_splitv (d := 149) (t := ((x.f6.f3.length : Nat) : Int) == 0) rfl (fun h44_ => ?_) (fun h44_ => ?_)
 have h44_d : (x.f6.f3.length : Nat) = 0 := by simpa using h44_
 refine s_vg rfl rfl rfl rfl (v_mv rfl rfl) ?_
 refine s_vg rfl rfl rfl rfl (v_ar rfl rfl rfl rfl) ?_
 refine s_vg rfl rfl rfl rfl (v_mv rfl rfl) ?_
 refine s_splitv (d := 152) (t := (0 : Int) == 0) rfl (fun h45_ => ?_) (fun h45_ => ?_)
 refine s_no rfl rfl rfl rfl ?_
 refine s_no rfl rfl rfl rfl ?_
 refine s_no rfl rfl rfl rfl ?_
 refine s_no rfl rfl rfl rfl ?_
 refine s_no rfl rfl rfl rfl ?_
 refine s_no rfl rfl rfl rfl ?_
 refine s_no rfl rfl rfl rfl ?_
 refine s_vg rfl rfl rfl rfl (v_pick rfl rfl rfl rfl) ?_
 refine s_v rfl rfl rfl rfl (v_pick rfl rfl rfl rfl) ?_
 refine s_v rfl rfl rfl rfl (v_as rfl rfl) ?_
 refine s_end ?_
 refine q_seq ?_
 refine c_seq rfl ?_
 refine r_ord (l := [0, 1, 2, 3, 4, 5, 6, 7, 8, 9, 10]) rfl (by kernel_rfl) (by kernel_rfl) ?_
 refine s_v rfl rfl rfl rfl (v_mv rfl rfl) ?_
 refine s_v rfl rfl rfl rfl (v_mv rfl rfl) ?_
 refine s_splitv (d := 163) (t := always) rfl (fun h46_ => ?_) (fun h46_ => ?_)
 refine s_vg rfl rfl rfl rfl (v_mv rfl rfl) ?_
 refine s_vg rfl rfl rfl rfl (v_not rfl rfl) ?_
 refine s_v rfl rfl rfl rfl (v_pick rfl rfl rfl rfl) ?_
 refine s_v rfl rfl rfl rfl (v_mv rfl rfl) ?_
 refine s_no rfl rfl rfl rfl ?_
 refine s_no rfl rfl rfl rfl ?_
 refine s_no rfl rfl rfl rfl ?_
 refine s_no rfl rfl rfl rfl ?_
 refine s_v rfl rfl rfl rfl (v_pick rfl rfl rfl rfl) ?_
 refine s_end ?_
 refine q_seq ?_
 refine c_cond0 rfl rfl ?_
 refine c_skip rfl ?_
 refine q_block ?_
 refine q_seq ?_
 refine r_ord (l := [0, 1, 2]) rfl (by kernel_rfl) (by kernel_rfl) ?_
 refine s_v rfl rfl rfl rfl (v_mv rfl rfl) ?_
 refine s_v rfl rfl rfl rfl (OpV.cast (v := .int .i64 ((p + 1 : Nat) : Int)) (v_ar rfl rfl rfl rfl) (addN (a := p) (b := 1) (by omega))) ?_
 refine s_v rfl rfl rfl rfl (v_as rfl rfl) ?_
 refine s_end ?_
 have hpb : pairBad l x (rd_T61 ((mapF l x.f2 (ordL l)).map old) (p : Int)).f0 = false := by unfold pairBad; rw [h27_f]; rfl
 rw [hpo] at hpb
 exact q_again (p + 1) [0, 1, 2, 3, 4] ⟨by omega, all_nextG hpl hs1.2 (by rw [hpb]; rfl)⟩ (by show (mapF l x.f2 (ordL l)).length - (p + 1) < (mapF l x.f2 (ordL l)).length - p; omega) (subF_spec ⟨rfl, rfl, rfl, rfl, rfl, rfl, rfl, trivial⟩) rfl (by decide)
 refine s_no rfl rfl rfl rfl ?_
 refine s_no rfl rfl rfl rfl ?_
 refine s_v rfl rfl rfl rfl (v_pick rfl rfl rfl rfl) ?_
 refine s_v rfl rfl rfl rfl (v_mv rfl rfl) ?_
 refine s_no rfl rfl rfl rfl ?_
 refine s_no rfl rfl rfl rfl ?_
 refine s_no rfl rfl rfl rfl ?_
 refine s_no rfl rfl rfl rfl ?_
 refine s_v rfl rfl rfl rfl (v_pick rfl rfl rfl rfl) ?_
 refine s_end ?_
 refine q_seq ?_
 refine c_cond0 rfl rfl ?_
 refine c_skip rfl ?_
 refine q_block ?_
 refine q_seq ?_
 refine r_ord (l := [0, 1, 2]) rfl (by kernel_rfl) (by kernel_rfl) ?_
 refine s_v rfl rfl rfl rfl (v_mv rfl rfl) ?_
 refine s_v rfl rfl rfl rfl (OpV.cast (v := .int .i64 ((p + 1 : Nat) : Int)) (v_ar rfl rfl rfl rfl) (addN (a := p) (b := 1) (by omega))) ?_
 refine s_v rfl rfl rfl rfl (v_as rfl rfl) ?_
 refine s_end ?_
 have hpb : pairBad l x (rd_T61 ((mapF l x.f2 (ordL l)).map old) (p : Int)).f0 = false := by unfold pairBad; rw [h27_f]; rfl
 rw [hpo] at hpb
 exact q_again (p + 1) [0, 1, 2, 3, 4] ⟨by omega, all_nextG hpl hs1.2 (by rw [hpb]; rfl)⟩ (by show (mapF l x.f2 (ordL l)).length - (p + 1) < (mapF l x.f2 (ordL l)).length - p; omega) (subF_spec ⟨rfl, rfl, rfl, rfl, rfl, rfl, rfl, trivial⟩) rfl (by decide)
 exact absurd h45_ (by decide)
 have h44_d : (x.f6.f3.length : Nat) ≠ 0 := by simpa using h44_
 refine s_no rfl rfl rfl rfl ?_
 refine s_no rfl rfl rfl rfl ?_
 refine s_no rfl rfl rfl rfl ?_
 refine s_no rfl rfl rfl rfl ?_
 refine s_no rfl rfl rfl rfl ?_
 refine s_no rfl rfl rfl rfl ?_
 refine s_no rfl rfl rfl rfl ?_
 refine s_no rfl rfl rfl rfl ?_
 refine s_no rfl rfl rfl rfl ?_
 refine s_no rfl rfl rfl rfl ?_
 refine s_no rfl rfl rfl rfl ?_
 refine s_v rfl rfl rfl rfl (v_pick rfl rfl rfl rfl) ?_
 refine s_v rfl rfl rfl rfl (v_as rfl rfl) ?_
 refine s_end ?_
 refine q_seq ?_
 refine c_seq rfl ?_
 refine r_ord (l := [0, 1, 2, 3, 4, 5, 6, 7, 8, 9, 10]) rfl (by kernel_rfl) (by kernel_rfl) ?_
 refine s_v rfl rfl rfl rfl (v_mv rfl rfl) ?_
 refine s_v rfl rfl rfl rfl (v_mv rfl rfl) ?_
 refine s_splitv (d := 163) (t := always) rfl (fun h47_ => ?_) (fun h47_ => ?_)
 refine s_vg rfl rfl rfl rfl (v_mv rfl rfl) ?_
 refine s_vg rfl rfl rfl rfl (v_not rfl rfl) ?_
 refine s_v rfl rfl rfl rfl (v_pick rfl rfl rfl rfl) ?_
 refine s_v rfl rfl rfl rfl (v_mv rfl rfl) ?_
 refine s_vg rfl rfl rfl rfl (v_mv rfl rfl) ?_
 refine s_vg rfl rfl rfl rfl (v_mv rfl rfl) ?_
 refine s_eg rfl rfl (e_callK (fun z : Unit => .bool (x.f6.f3.contains ((rd_T61 ((mapF l x.f2 (ordL l)).map old) (p : Int)).f0))) (fun z => []) #[.slice AE x.f6.f3.length cE, .int .u64 ((rd_T61 ((mapF l x.f2 (ordL l)).map old) (p : Int)).f0)] rfl rfl rfl rfl rfl Try.func62 rfl (by decide) rfl rfl (fun w ht => stepstoneref08_in.con 5000 _ _ x.f6.f3 ((rd_T61 ((mapF l x.f2 (ordL l)).map old) (p : Int)).f0) _ (in_f x.f6.f3 ((rd_T61 ((mapF l x.f2 (ordL l)).map old) (p : Int)).f0) (by omega)) w (Tri.fact ht 4 rfl))) ?_
 intro z48_
 refine s_vg rfl rfl rfl rfl (v_not rfl rfl) ?_
 refine s_v rfl rfl rfl rfl (v_pick rfl rfl rfl rfl) ?_
 refine s_end ?_
 refine q_seq ?_
 refine c_cond (t := !(x.f6.f3.contains ((rd_T61 ((mapF l x.f2 (ordL l)).map old) (p : Int)).f0))) rfl rfl (fun h49_ => ?_) (fun h49_ => ?_)
 refine c_seq rfl ?_
 refine r_ord (l := [0]) rfl (by kernel_rfl) (by kernel_rfl) ?_
 refine s_v rfl rfl rfl rfl (v_as rfl rfl) ?_
 refine s_end ?_
 refine q_seq ?_
 refine c_ret rfl ?_
 refine q_block_ret ?_
 refine q_then_ret ?_
 refine q_then_ret ?_
 refine q_block_ret ?_
 refine q_then_ret ?_
 refine q_take [] rfl (by decide) ?_
 exact absurd (halw.symm.trans h47_) (by simp)
 refine c_skip rfl ?_
 refine q_block ?_
 refine q_seq ?_
 refine r_ord (l := [0, 1, 2]) rfl (by kernel_rfl) (by kernel_rfl) ?_
 refine s_v rfl rfl rfl rfl (v_mv rfl rfl) ?_
 refine s_v rfl rfl rfl rfl (OpV.cast (v := .int .i64 ((p + 1 : Nat) : Int)) (v_ar rfl rfl rfl rfl) (addN (a := p) (b := 1) (by omega))) ?_
 refine s_v rfl rfl rfl rfl (v_as rfl rfl) ?_
 refine s_end ?_
 have hpb : pairBad l x (rd_T61 ((mapF l x.f2 (ordL l)).map old) (p : Int)).f0 = false := by unfold pairBad; rw [h27_f]; rfl
 rw [hpo] at hpb
 exact q_again (p + 1) [0, 1, 2, 3, 4] ⟨by omega, all_nextG hpl hs1.2 (by rw [hpb]; rfl)⟩ (by show (mapF l x.f2 (ordL l)).length - (p + 1) < (mapF l x.f2 (ordL l)).length - p; omega) (subF_spec ⟨rfl, rfl, rfl, rfl, rfl, rfl, rfl, trivial⟩) rfl (by decide)
 refine s_no rfl rfl rfl rfl ?_
 refine s_no rfl rfl rfl rfl ?_
 refine s_v rfl rfl rfl rfl (v_pick rfl rfl rfl rfl) ?_
 refine s_v rfl rfl rfl rfl (v_mv rfl rfl) ?_
 refine s_no rfl rfl rfl rfl ?_
 refine s_no rfl rfl rfl rfl ?_
 refine s_no rfl rfl rfl rfl ?_
 refine s_no rfl rfl rfl rfl ?_
 refine s_v rfl rfl rfl rfl (v_pick rfl rfl rfl rfl) ?_
 refine s_end ?_
 refine q_seq ?_
 refine c_cond0 rfl rfl ?_
 refine c_skip rfl ?_
 refine q_block ?_
 refine q_seq ?_
 refine r_ord (l := [0, 1, 2]) rfl (by kernel_rfl) (by kernel_rfl) ?_
 refine s_v rfl rfl rfl rfl (v_mv rfl rfl) ?_
 refine s_v rfl rfl rfl rfl (OpV.cast (v := .int .i64 ((p + 1 : Nat) : Int)) (v_ar rfl rfl rfl rfl) (addN (a := p) (b := 1) (by omega))) ?_
 refine s_v rfl rfl rfl rfl (v_as rfl rfl) ?_
 refine s_end ?_
 have hpb : pairBad l x (rd_T61 ((mapF l x.f2 (ordL l)).map old) (p : Int)).f0 = false := by unfold pairBad; rw [h27_f]; rfl
 rw [hpo] at hpb
 exact q_again (p + 1) [0, 1, 2, 3, 4] ⟨by omega, all_nextG hpl hs1.2 (by rw [hpb]; rfl)⟩ (by show (mapF l x.f2 (ordL l)).length - (p + 1) < (mapF l x.f2 (ordL l)).length - p; omega) (subF_spec ⟨rfl, rfl, rfl, rfl, rfl, rfl, rfl, trivial⟩) rfl (by decide)
 have h26_d := of_decide_eq_false h26_
 have hpl9 : (mapF l x.f2 (ordL l)).length ≤ p := by have h_ : ¬ (p : Int) < (((mapF l x.f2 (ordL l)).map old).length : Int) := h26_d; rw [List.length_map] at h_; omega
 have hend : okR l x = true := by unfold okR risingB; rw [hkeys, honce, all_endG hpl9 hs.2, hbeg, hlen]; rfl
 refine c_exit (i := 4) rfl rfl ?_
 refine q_then_exit ?_
 refine q_then_exit ?_
 refine q_block_here rfl ?_
 refine q_seq ?_
 refine c_seq rfl ?_
 refine r_ord (l := [0]) rfl (by kernel_rfl) (by kernel_rfl) ?_
 refine s_v rfl rfl rfl rfl (v_as rfl rfl) ?_
 refine s_end ?_
 refine q_seq ?_
 refine c_ret rfl ?_
 refine q_take [] rfl (by decide) ?_
 rw [hend] at hX
 exact q_post rfl (.cons rfl (.nil)) hX
 have h2_d := of_decide_eq_false h2_
 have hmx : mx 0 x.f1.f3 = x.f1.f3 := by unfold mx; split <;> omega
 refine c_skip rfl ?_
 refine q_seq ?_
 refine c_seq rfl ?_
 refine c_seq rfl ?_
 refine r_ord (l := [0, 1, 2, 3, 4, 5, 6, 7, 8, 9, 10]) rfl (by kernel_rfl) (by kernel_rfl) ?_
 refine s_v rfl rfl rfl rfl (v_fa rfl Try.underlying48 rfl SZ3 rfl) ?_
 refine s_v rfl rfl rfl rfl (v_ld 0 rfl Try.underlying3 rfl rfl rfl rfl) ?_
 refine s_v rfl rfl rfl rfl (v_fa rfl Try.underlying48 rfl SZ3 rfl) ?_
 refine s_v rfl rfl rfl rfl (v_ld 0 rfl Try.underlying3 rfl rfl rfl rfl) ?_
 refine s_v rfl rfl rfl rfl (v_ar rfl rfl rfl rfl) ?_
 refine s_v rfl rfl rfl rfl (v_mv rfl rfl) ?_
 refine s_splitv (d := 30) (t := decide ((x.f2 : Int) > x.f4)) rfl (fun h50_ => ?_) (fun h50_ => ?_)
 have h50_d := of_decide_eq_true h50_
 refine s_no rfl rfl rfl rfl ?_
 refine s_no rfl rfl rfl rfl ?_
 refine s_no rfl rfl rfl rfl ?_
 refine s_no rfl rfl rfl rfl ?_
 refine s_v rfl rfl rfl rfl (v_pick rfl rfl rfl rfl) ?_
 refine s_end ?_
 refine q_seq ?_
 refine c_cond1 rfl rfl ?_
 refine c_seq rfl ?_
 refine r_ord (l := [0]) rfl (by kernel_rfl) (by kernel_rfl) ?_
 refine s_v rfl rfl rfl rfl (v_as rfl rfl) ?_
 refine s_end ?_
 refine q_seq ?_
 refine c_ret rfl ?_
 refine q_then_ret ?_
 refine q_take [] rfl (by decide) ?_
 rw [okR_bad1 h50_d] at hX
 exact q_post rfl (.cons rfl (.nil)) hX
 have h50_d := of_decide_eq_false h50_
 have hbeg : decide (x.f2 ≤ x.f4) = true := decide_eq_true (by omega)
 refine s_vg rfl rfl rfl rfl (v_mv rfl rfl) ?_
 refine s_vg rfl rfl rfl rfl (v_len rfl rfl rfl Try.underlying44 rfl rfl) ?_
 refine s_vg rfl rfl rfl rfl (v_mv rfl rfl) ?_
 refine s_vg rfl rfl rfl rfl (v_ar rfl rfl rfl rfl) ?_
 refine s_v rfl rfl rfl rfl (v_pick rfl rfl rfl rfl) ?_
 refine s_end ?_
 refine q_seq ?_
 refine c_cond (t := decide (((x.f6.f3.length : Nat) : Int) > x.f1.f3)) rfl rfl (fun h51_ => ?_) (fun h51_ => ?_)
 have h51_d := of_decide_eq_true h51_
 refine c_seq rfl ?_
 refine r_ord (l := [0]) rfl (by kernel_rfl) (by kernel_rfl) ?_
 refine s_v rfl rfl rfl rfl (v_as rfl rfl) ?_
 refine s_end ?_
 refine q_seq ?_
 refine c_ret rfl ?_
 refine q_then_ret ?_
 refine q_take [] rfl (by decide) ?_
 rw [okR_bad2 (show (x.f6.f3.length : Int) > mx 0 x.f1.f3 by rw [hmx]; omega)] at hX
 exact q_post rfl (.cons rfl (.nil)) hX
 have h51_d := of_decide_eq_false h51_
 have hlen : decide ((x.f6.f3.length : Int) ≤ mx 0 x.f1.f3) = true := decide_eq_true (by rw [hmx]; omega)
 refine c_skip rfl ?_
 refine q_seq ?_
 refine c_seq rfl ?_
 refine r_ord (l := [0, 1, 2, 3]) rfl (by kernel_rfl) (by kernel_rfl) ?_
 refine s_v rfl rfl rfl rfl (v_mv rfl rfl) ?_
 refine s_v rfl rfl rfl rfl (v_ldA [.int .i64 x.f0, .int .i64 x.f1.f0, .int .u64 x.f1.f1, .int .u64 x.f1.f2, .int .i64 x.f1.f3, .int .i64 x.f1.f4, .int .i64 x.f2, .int .i64 x.f3, .int .i64 x.f4, .bool x.f5, .bool x.f6.f0, .bool x.f6.f1, .int .u64 x.f6.f2, .slice AE x.f6.f3.length cE] 0 rfl Try.underlying48 rfl SZ48 rfl rfl rfl rfl) ?_
 refine s_e rfl rfl (e_callF [1] #[.slice A l.length c, .agg #[.int .i64 x.f0, .int .i64 x.f1.f0, .int .u64 x.f1.f1, .int .u64 x.f1.f2, .int .i64 x.f1.f3, .int .i64 x.f1.f4, .int .i64 x.f2, .int .i64 x.f3, .int .i64 x.f4, .bool x.f5, .bool x.f6.f0, .bool x.f6.f1, .int .u64 x.f6.f2, .slice AE x.f6.f3.length cE]] rfl rfl rfl rfl rfl Try.func60 rfl (by decide) rfl rfl rfl rfl (fun w ht => times_con A c l x AE cE hl w _)) ?_
 intro A52_ c53_
 refine s_v rfl rfl rfl rfl (v_as rfl rfl) ?_
 refine s_end ?_
 refine q_seq ?_
 refine c_seq rfl ?_
 refine c_seq rfl ?_
 refine r_ord (l := [0]) rfl (by kernel_rfl) (by kernel_rfl) ?_
 refine s_v rfl rfl rfl rfl (v_as rfl rfl) ?_
 refine s_end ?_
 refine q_seq ?_
 refine c_block rfl ?_
 refine c_loop (σ := Nat) (fun i => i ≤ x.f6.f3.length ∧ (List.range i).all (okKey x) = true ∧ (x.f6.f3.take i).any (fun k => !(onceL l x k)) = false) (fun i => x.f6.f3.length - i) (fun i => [(0, .slice A l.length c), (3, .pointer (some ⟨b1_, 0, none⟩)), (5, .slice AE x.f6.f3.length cE), (6, .int .i64 x.f1.f3), (7, .slice A52_ ((timesL l x l.length).length) c53_), (8, .int .i64 (i : Int))]) (fun i => [.f (KC (Kd.int .i64) A52_ c53_ (timesL l x l.length)), .b b1_ (.cells #[.int .i64 x.f0, .int .i64 x.f1.f0, .int .u64 x.f1.f1, .int .u64 x.f1.f2, .int .i64 x.f1.f3, .int .i64 x.f1.f4, .int .i64 x.f2, .int .i64 x.f3, .int .i64 x.f4, .bool x.f5, .bool x.f6.f0, .bool x.f6.f1, .int .u64 x.f6.f2, .slice AE x.f6.f3.length cE] 48 (0, 0)), .f (KC k48 A c l), .f (KC (Kd.int .u64) AE cE x.f6.f3)]) 0 [0, 1, 2, 3] rfl ⟨Nat.zero_le _, rfl, rfl⟩ (subF_spec ⟨rfl, rfl, rfl, rfl, rfl, rfl, trivial⟩) rfl (by decide) ?_
 rintro i hs
 have hi_ : i ≤ x.f6.f3.length := hs.1
 have hs1 := hs
 refine c_seq rfl ?_
 refine c_seq rfl ?_
 refine r_ord (l := [0, 1, 2, 3]) rfl (by kernel_rfl) (by kernel_rfl) ?_
 refine s_v rfl rfl rfl rfl (v_mv rfl rfl) ?_
 refine s_v rfl rfl rfl rfl (v_mv rfl rfl) ?_
 refine s_v rfl rfl rfl rfl (v_len rfl rfl rfl Try.underlying44 rfl rfl) ?_
 refine s_v rfl rfl rfl rfl (v_ar rfl rfl rfl rfl) ?_
 refine s_end ?_
 refine q_seq ?_
 refine c_cond (t := decide (((i : Int) : Int) < (x.f6.f3.length : Nat))) rfl rfl (fun h54_ => ?_) (fun h54_ => ?_)
 have h54_d := of_decide_eq_true h54_
 have hil : i < x.f6.f3.length := by omega
 refine c_skip rfl ?_
 refine q_seq ?_
 refine c_seq rfl ?_
 refine c_block rfl ?_
 refine c_seq rfl ?_
 refine c_seq rfl ?_
 refine r_any [.f (KC (Kd.int .i64) A52_ c53_ (timesL l x l.length)), .b b1_ (.cells #[.int .i64 x.f0, .int .i64 x.f1.f0, .int .u64 x.f1.f1, .int .u64 x.f1.f2, .int .i64 x.f1.f3, .int .i64 x.f1.f4, .int .i64 x.f2, .int .i64 x.f3, .int .i64 x.f4, .bool x.f5, .bool x.f6.f0, .bool x.f6.f1, .int .u64 x.f6.f2, .slice AE x.f6.f3.length cE] 48 (0, 0)), .f (KC k48 A c l), .f (KC (Kd.int .u64) AE cE x.f6.f3)] (by kernel_rfl) rfl (by kernel_rfl) (mem_pick (idx := [0, 1, 2, 3]) rfl) ?_
 refine a_v 0 rfl (by kernel_rfl) (by kernel_rfl) (by kernel_rfl) rfl rfl rfl (v_mv rfl rfl) ?_
 refine a_v 1 rfl (by kernel_rfl) (by kernel_rfl) (by kernel_rfl) rfl rfl rfl (v_mv rfl rfl) ?_
 refine a_v 2 rfl (by kernel_rfl) (by kernel_rfl) (by kernel_rfl) rfl rfl rfl (v_iaK (i := 3) rfl Try.underlying44 SZ41 rfl rfl rfl rfl (by omega) (by omega)) ?_
 refine a_v 3 rfl (by kernel_rfl) (by kernel_rfl) (by kernel_rfl) rfl rfl rfl (v_ldK (v := .int .u64 (rd x.f6.f3 (i : Int))) 0 3 rfl Try.underlying41 rfl rfl rfl rfl (by omega) (by omega) (fun w K h => h)) ?_
 refine a_v 4 rfl (by kernel_rfl) (by kernel_rfl) (by kernel_rfl) rfl rfl rfl (v_fa rfl Try.underlying48 rfl SZ43 rfl) ?_
 refine a_v 5 rfl (by kernel_rfl) (by kernel_rfl) (by kernel_rfl) rfl rfl rfl (v_fa rfl Try.underlying43 rfl SZ41 rfl) ?_
 refine a_v 6 rfl (by kernel_rfl) (by kernel_rfl) (by kernel_rfl) rfl rfl rfl (v_ld 1 rfl Try.underlying41 rfl rfl rfl rfl) ?_
 refine a_v 7 rfl (by kernel_rfl) (by kernel_rfl) (by kernel_rfl) rfl rfl rfl (v_ar rfl rfl rfl rfl) ?_
 refine a_v 8 rfl (by kernel_rfl) (by kernel_rfl) (by kernel_rfl) rfl rfl rfl (v_mv rfl rfl) ?_
 refine a_splitv (d := 53) (t := decide ((rd x.f6.f3 (i : Int) : Int) < x.f1.f1)) rfl (fun h55_ => ?_) (fun h55_ => ?_)
 have h55_d := of_decide_eq_true h55_
 have h55_f : decide (rd x.f6.f3 (i : Int) < x.f1.f1) = true := h55_
 refine a_no 9 rfl (by kernel_rfl) (by kernel_rfl) (by kernel_rfl) rfl rfl rfl ?_
 refine a_no 10 rfl (by kernel_rfl) (by kernel_rfl) (by kernel_rfl) rfl rfl rfl ?_
 refine a_no 11 rfl (by kernel_rfl) (by kernel_rfl) (by kernel_rfl) rfl rfl rfl ?_
 refine a_no 12 rfl (by kernel_rfl) (by kernel_rfl) (by kernel_rfl) rfl rfl rfl ?_
 refine a_no 13 rfl (by kernel_rfl) (by kernel_rfl) (by kernel_rfl) rfl rfl rfl ?_
 refine a_no 14 rfl (by kernel_rfl) (by kernel_rfl) (by kernel_rfl) rfl rfl rfl ?_
 refine a_no 15 rfl (by kernel_rfl) (by kernel_rfl) (by kernel_rfl) rfl rfl rfl ?_
 refine a_no 16 rfl (by kernel_rfl) (by kernel_rfl) (by kernel_rfl) rfl rfl rfl ?_
 refine a_v 17 rfl (by kernel_rfl) (by kernel_rfl) (by kernel_rfl) rfl rfl rfl (v_pick rfl rfl rfl rfl) ?_
 refine a_v 18 rfl (by kernel_rfl) (by kernel_rfl) (by kernel_rfl) rfl rfl rfl (v_mv rfl rfl) ?_
 refine a_no 19 rfl (by kernel_rfl) (by kernel_rfl) (by kernel_rfl) rfl rfl rfl ?_
 refine a_no 20 rfl (by kernel_rfl) (by kernel_rfl) (by kernel_rfl) rfl rfl rfl ?_
 refine a_no 21 rfl (by kernel_rfl) (by kernel_rfl) (by kernel_rfl) rfl rfl rfl ?_
 refine a_no 22 rfl (by kernel_rfl) (by kernel_rfl) (by kernel_rfl) rfl rfl rfl ?_
 refine a_no 23 rfl (by kernel_rfl) (by kernel_rfl) (by kernel_rfl) rfl rfl rfl ?_
 refine a_no 24 rfl (by kernel_rfl) (by kernel_rfl) (by kernel_rfl) rfl rfl rfl ?_
 refine a_no 25 rfl (by kernel_rfl) (by kernel_rfl) (by kernel_rfl) rfl rfl rfl ?_
 refine a_no 26 rfl (by kernel_rfl) (by kernel_rfl) (by kernel_rfl) rfl rfl rfl ?_
 refine a_no 27 rfl (by kernel_rfl) (by kernel_rfl) (by kernel_rfl) rfl rfl rfl ?_
 refine a_no 28 rfl (by kernel_rfl) (by kernel_rfl) (by kernel_rfl) rfl rfl rfl ?_
 refine a_no 29 rfl (by kernel_rfl) (by kernel_rfl) (by kernel_rfl) rfl rfl rfl ?_
 refine a_no 30 rfl (by kernel_rfl) (by kernel_rfl) (by kernel_rfl) rfl rfl rfl ?_
 refine a_no 31 rfl (by kernel_rfl) (by kernel_rfl) (by kernel_rfl) rfl rfl rfl ?_
 refine a_no 32 rfl (by kernel_rfl) (by kernel_rfl) (by kernel_rfl) rfl rfl rfl ?_
 refine a_v 33 rfl (by kernel_rfl) (by kernel_rfl) (by kernel_rfl) rfl rfl rfl (v_pick rfl rfl rfl rfl) ?_
 refine a_end (by kernel_rfl) ?_
 refine q_seq ?_
 refine c_cond1 rfl rfl ?_
 refine c_seq rfl ?_
 refine r_ord (l := [0]) rfl (by kernel_rfl) (by kernel_rfl) ?_
 refine s_v rfl rfl rfl rfl (v_as rfl rfl) ?_
 refine s_end ?_
 refine q_seq ?_
 refine c_ret rfl ?_
 refine q_then_ret ?_
 refine q_block_ret ?_
 refine q_then_ret ?_
 refine q_then_ret ?_
 refine q_block_ret ?_
 refine q_then_ret ?_
 refine q_take [] rfl (by decide) ?_
 rw [okR_bad3 hil (show okKey x i = false by unfold okKey; rw [h55_f]; rfl)] at hX
 exact q_post rfl (.cons rfl (.nil)) hX
 have h55_d := of_decide_eq_false h55_
 have h55_f : decide (rd x.f6.f3 (i : Int) < x.f1.f1) = false := h55_
 refine a_v 9 rfl (by kernel_rfl) (by kernel_rfl) (by kernel_rfl) rfl rfl rfl (v_mv rfl rfl) ?_
 refine a_v 10 rfl (by kernel_rfl) (by kernel_rfl) (by kernel_rfl) rfl rfl rfl (v_mv rfl rfl) ?_
 refine a_v 11 rfl (by kernel_rfl) (by kernel_rfl) (by kernel_rfl) rfl rfl rfl (v_iaK (i := 3) rfl Try.underlying44 SZ41 rfl rfl rfl rfl (by omega) (by omega)) ?_
 refine a_v 12 rfl (by kernel_rfl) (by kernel_rfl) (by kernel_rfl) rfl rfl rfl (v_ldK (v := .int .u64 (rd x.f6.f3 (i : Int))) 0 3 rfl Try.underlying41 rfl rfl rfl rfl (by omega) (by omega) (fun w K h => h)) ?_
 refine a_v 13 rfl (by kernel_rfl) (by kernel_rfl) (by kernel_rfl) rfl rfl rfl (v_fa rfl Try.underlying48 rfl SZ43 rfl) ?_
 refine a_v 14 rfl (by kernel_rfl) (by kernel_rfl) (by kernel_rfl) rfl rfl rfl (v_fa rfl Try.underlying43 rfl SZ41 rfl) ?_
 refine a_v 15 rfl (by kernel_rfl) (by kernel_rfl) (by kernel_rfl) rfl rfl rfl (v_ld 1 rfl Try.underlying41 rfl rfl rfl rfl) ?_
 refine a_v 16 rfl (by kernel_rfl) (by kernel_rfl) (by kernel_rfl) rfl rfl rfl (v_ar rfl rfl rfl rfl) ?_
 refine a_v 17 rfl (by kernel_rfl) (by kernel_rfl) (by kernel_rfl) rfl rfl rfl (v_pick rfl rfl rfl rfl) ?_
 refine a_v 18 rfl (by kernel_rfl) (by kernel_rfl) (by kernel_rfl) rfl rfl rfl (v_mv rfl rfl) ?_
 refine a_splitv (d := 63) (t := decide ((rd x.f6.f3 (i : Int) : Int) > x.f1.f2)) rfl (fun h56_ => ?_) (fun h56_ => ?_)
 have h56_d := of_decide_eq_true h56_
 have h56_f : decide (rd x.f6.f3 (i : Int) > x.f1.f2) = true := h56_
 refine a_no 19 rfl (by kernel_rfl) (by kernel_rfl) (by kernel_rfl) rfl rfl rfl ?_
 refine a_no 20 rfl (by kernel_rfl) (by kernel_rfl) (by kernel_rfl) rfl rfl rfl ?_
 refine a_no 21 rfl (by kernel_rfl) (by kernel_rfl) (by kernel_rfl) rfl rfl rfl ?_
 refine a_no 22 rfl (by kernel_rfl) (by kernel_rfl) (by kernel_rfl) rfl rfl rfl ?_
 refine a_no 23 rfl (by kernel_rfl) (by kernel_rfl) (by kernel_rfl) rfl rfl rfl ?_
 refine a_no 24 rfl (by kernel_rfl) (by kernel_rfl) (by kernel_rfl) rfl rfl rfl ?_
 refine a_no 25 rfl (by kernel_rfl) (by kernel_rfl) (by kernel_rfl) rfl rfl rfl ?_
 refine a_no 26 rfl (by kernel_rfl) (by kernel_rfl) (by kernel_rfl) rfl rfl rfl ?_
 refine a_no 27 rfl (by kernel_rfl) (by kernel_rfl) (by kernel_rfl) rfl rfl rfl ?_
 refine a_no 28 rfl (by kernel_rfl) (by kernel_rfl) (by kernel_rfl) rfl rfl rfl ?_
 refine a_no 29 rfl (by kernel_rfl) (by kernel_rfl) (by kernel_rfl) rfl rfl rfl ?_
 refine a_no 30 rfl (by kernel_rfl) (by kernel_rfl) (by kernel_rfl) rfl rfl rfl ?_
 refine a_no 31 rfl (by kernel_rfl) (by kernel_rfl) (by kernel_rfl) rfl rfl rfl ?_
 refine a_no 32 rfl (by kernel_rfl) (by kernel_rfl) (by kernel_rfl) rfl rfl rfl ?_
 refine a_v 33 rfl (by kernel_rfl) (by kernel_rfl) (by kernel_rfl) rfl rfl rfl (v_pick rfl rfl rfl rfl) ?_
 refine a_end (by kernel_rfl) ?_
 refine q_seq ?_
 refine c_cond1 rfl rfl ?_
 refine c_seq rfl ?_
 refine r_ord (l := [0]) rfl (by kernel_rfl) (by kernel_rfl) ?_
 refine s_v rfl rfl rfl rfl (v_as rfl rfl) ?_
 refine s_end ?_
 refine q_seq ?_
 refine c_ret rfl ?_
 refine q_then_ret ?_
 refine q_block_ret ?_
 refine q_then_ret ?_
 refine q_then_ret ?_
 refine q_block_ret ?_
 refine q_then_ret ?_
 refine q_take [] rfl (by decide) ?_
 rw [okR_bad3 hil (show okKey x i = false by unfold okKey; rw [h55_f, h56_f]; rfl)] at hX
 exact q_post rfl (.cons rfl (.nil)) hX
 have h56_d := of_decide_eq_false h56_
 have h56_f : decide (rd x.f6.f3 (i : Int) > x.f1.f2) = false := h56_
 refine a_v 19 rfl (by kernel_rfl) (by kernel_rfl) (by kernel_rfl) rfl rfl rfl (v_mv rfl rfl) ?_
 refine a_v 20 rfl (by kernel_rfl) (by kernel_rfl) (by kernel_rfl) rfl rfl rfl (v_ar rfl rfl rfl rfl) ?_
 refine a_v 21 rfl (by kernel_rfl) (by kernel_rfl) (by kernel_rfl) rfl rfl rfl (v_mv rfl rfl) ?_
 refine a_splitv (d := 66) (t := decide (((i : Int) : Int) > 0)) rfl (fun h57_ => ?_) (fun h57_ => ?_)
 have h57_d := of_decide_eq_true h57_
 have h57_f : decide ((i : Int) > 0) = true := h57_
 refine a_v 22 rfl (by kernel_rfl) (by kernel_rfl) (by kernel_rfl) rfl rfl rfl (v_mv rfl rfl) ?_
 refine a_v 23 rfl (by kernel_rfl) (by kernel_rfl) (by kernel_rfl) rfl rfl rfl (v_mv rfl rfl) ?_
 refine a_v 24 rfl (by kernel_rfl) (by kernel_rfl) (by kernel_rfl) rfl rfl rfl (OpV.cast (v := .int .i64 ((i - 1 : Nat) : Int)) (v_ar rfl rfl rfl rfl) (subN (a := i) (b := 1) (by omega) (by omega))) ?_
 refine a_v 25 rfl (by kernel_rfl) (by kernel_rfl) (by kernel_rfl) rfl rfl rfl (v_iaK (i := 3) rfl Try.underlying44 SZ41 rfl rfl rfl rfl (by omega) (by omega)) ?_
 refine a_v 26 rfl (by kernel_rfl) (by kernel_rfl) (by kernel_rfl) rfl rfl rfl (v_ldK (v := .int .u64 (rd x.f6.f3 ((i - 1 : Nat) : Int))) 0 3 rfl Try.underlying41 rfl rfl rfl rfl (by omega) (by omega) (fun w K h => h)) ?_
 refine a_v 27 rfl (by kernel_rfl) (by kernel_rfl) (by kernel_rfl) rfl rfl rfl (v_mv rfl rfl) ?_
 refine a_v 28 rfl (by kernel_rfl) (by kernel_rfl) (by kernel_rfl) rfl rfl rfl (v_mv rfl rfl) ?_
 refine a_v 29 rfl (by kernel_rfl) (by kernel_rfl) (by kernel_rfl) rfl rfl rfl (v_iaK (i := 3) rfl Try.underlying44 SZ41 rfl rfl rfl rfl (by omega) (by omega)) ?_
 refine a_v 30 rfl (by kernel_rfl) (by kernel_rfl) (by kernel_rfl) rfl rfl rfl (v_ldK (v := .int .u64 (rd x.f6.f3 (i : Int))) 0 3 rfl Try.underlying41 rfl rfl rfl rfl (by omega) (by omega) (fun w K h => h)) ?_
 refine a_v 31 rfl (by kernel_rfl) (by kernel_rfl) (by kernel_rfl) rfl rfl rfl (v_ar rfl rfl rfl rfl) ?_
 refine a_v 32 rfl (by kernel_rfl) (by kernel_rfl) (by kernel_rfl) rfl rfl rfl (v_pick rfl rfl rfl rfl) ?_
 refine a_v 33 rfl (by kernel_rfl) (by kernel_rfl) (by kernel_rfl) rfl rfl rfl (v_pick rfl rfl rfl rfl) ?_
 refine a_end (by kernel_rfl) ?_
 refine q_seq ?_
 refine c_cond (t := decide ((rd x.f6.f3 ((i - 1 : Nat) : Int) : Int) ≥ (rd x.f6.f3 (i : Int)))) rfl rfl (fun h58_ => ?_) (fun h58_ => ?_)
 have h58_d := of_decide_eq_true h58_
 have h58_f : decide (rd x.f6.f3 ((i : Int) - 1) ≥ rd x.f6.f3 (i : Int)) = true := by have h_ := h58_; rwa [show ((i - 1 : Nat) : Int) = (i : Int) - 1 by omega] at h_
 refine c_seq rfl ?_
 refine r_ord (l := [0]) rfl (by kernel_rfl) (by kernel_rfl) ?_
 refine s_v rfl rfl rfl rfl (v_as rfl rfl) ?_
 refine s_end ?_
 refine q_seq ?_
 refine c_ret rfl ?_
 refine q_then_ret ?_
 refine q_block_ret ?_
 refine q_then_ret ?_
 refine q_then_ret ?_
 refine q_block_ret ?_
 refine q_then_ret ?_
 refine q_take [] rfl (by decide) ?_
 rw [okR_bad3 hil (show okKey x i = false by unfold okKey; rw [h55_f, h56_f, h57_f, h58_f]; rfl)] at hX
 exact q_post rfl (.cons rfl (.nil)) hX
 have h58_d := of_decide_eq_false h58_
 have h58_f : decide (rd x.f6.f3 ((i : Int) - 1) ≥ rd x.f6.f3 (i : Int)) = false := by have h_ := h58_; rwa [show ((i - 1 : Nat) : Int) = (i : Int) - 1 by omega] at h_
 refine c_skip rfl ?_
 refine q_seq ?_
 refine c_seq rfl ?_
 refine r_ord (l := [0]) rfl (by kernel_rfl) (by kernel_rfl) ?_
 refine s_v rfl rfl rfl rfl (v_as rfl rfl) ?_
 refine s_end ?_
 refine q_seq ?_
 refine c_seq rfl ?_
 refine c_seq rfl ?_
 refine r_ord (l := [0]) rfl (by kernel_rfl) (by kernel_rfl) ?_
 refine s_v rfl rfl rfl rfl (v_as rfl rfl) ?_
 refine s_end ?_
 refine q_seq ?_
 refine c_block rfl ?_
 refine c_loop (σ := (Nat × Bool)) (fun s : (Nat × Bool) => match s with | (j, once) => j ≤ (timesL l x l.length).length ∧ once = ((timesL l x l.length).take j).any (fun t => (getM (mapF l t (ordL l)) (rd x.f6.f3 (i : Int))).2.1)) (fun s : (Nat × Bool) => match s with | (j, once) => (timesL l x l.length).length - j) (fun s : (Nat × Bool) => match s with | (j, once) => [(0, .slice A l.length c), (3, .pointer (some ⟨b1_, 0, none⟩)), (5, .slice AE x.f6.f3.length cE), (6, .int .i64 x.f1.f3), (7, .slice A52_ ((timesL l x l.length).length) c53_), (8, .int .i64 (i : Int)), (10, .int .i64 (j : Int)), (9, .bool once)]) (fun s : (Nat × Bool) => match s with | (j, once) => [.f (KC (Kd.int .i64) A52_ c53_ (timesL l x l.length)), .b b1_ (.cells #[.int .i64 x.f0, .int .i64 x.f1.f0, .int .u64 x.f1.f1, .int .u64 x.f1.f2, .int .i64 x.f1.f3, .int .i64 x.f1.f4, .int .i64 x.f2, .int .i64 x.f3, .int .i64 x.f4, .bool x.f5, .bool x.f6.f0, .bool x.f6.f1, .int .u64 x.f6.f2, .slice AE x.f6.f3.length cE] 48 (0, 0)), .f (KC k48 A c l), .f (KC (Kd.int .u64) AE cE x.f6.f3)]) (0, false) [0, 1, 2, 3] rfl ⟨Nat.zero_le _, rfl⟩ (subF_spec ⟨rfl, rfl, rfl, rfl, rfl, rfl, rfl, rfl, trivial⟩) rfl (by decide) ?_
 rintro ⟨j, once⟩ hs
 have hs : j ≤ (timesL l x l.length).length ∧ once = ((timesL l x l.length).take j).any (fun t => (getM (mapF l t (ordL l)) (rd x.f6.f3 (i : Int))).2.1) := hs
 have hj_ := hs.1
 have hs3 := hs.2
 have htl := times_len l x l.length
 refine c_seq rfl ?_
 refine c_seq rfl ?_
 refine r_ord (l := [0, 1, 2, 3]) rfl (by kernel_rfl) (by kernel_rfl) ?_
 refine s_v rfl rfl rfl rfl (v_mv rfl rfl) ?_
 refine s_v rfl rfl rfl rfl (v_mv rfl rfl) ?_
 refine s_v rfl rfl rfl rfl (v_len rfl rfl rfl Try.underlying25 rfl rfl) ?_
 refine s_v rfl rfl rfl rfl (v_ar rfl rfl rfl rfl) ?_
 refine s_end ?_
 refine q_seq ?_
 refine c_cond (t := decide (((j : Int) : Int) < ((timesL l x l.length).length : Nat))) rfl rfl (fun h59_ => ?_) (fun h59_ => ?_)
 have h59_d := of_decide_eq_true h59_
 have hjl : j < (timesL l x l.length).length := by omega
 have hst := any_nextG (p := (fun t => (getM (mapF l t (ordL l)) (rd x.f6.f3 (i : Int))).2.1)) hjl
 rw [← rdI hjl] at hst
 refine c_skip rfl ?_
 refine q_seq ?_
 refine c_seq rfl ?_
 refine c_block rfl ?_
 refine r_any [.f (KC (Kd.int .i64) A52_ c53_ (timesL l x l.length)), .b b1_ (.cells #[.int .i64 x.f0, .int .i64 x.f1.f0, .int .u64 x.f1.f1, .int .u64 x.f1.f2, .int .i64 x.f1.f3, .int .i64 x.f1.f4, .int .i64 x.f2, .int .i64 x.f3, .int .i64 x.f4, .bool x.f5, .bool x.f6.f0, .bool x.f6.f1, .int .u64 x.f6.f2, .slice AE x.f6.f3.length cE] 48 (0, 0)), .f (KC k48 A c l), .f (KC (Kd.int .u64) AE cE x.f6.f3)] (by kernel_rfl) rfl (by kernel_rfl) (mem_pick (idx := [0, 1, 2, 3]) rfl) ?_
 refine a_v 0 rfl (by kernel_rfl) (by kernel_rfl) (by kernel_rfl) rfl rfl rfl (v_mv rfl rfl) ?_
 refine a_v 1 rfl (by kernel_rfl) (by kernel_rfl) (by kernel_rfl) rfl rfl rfl (v_mv rfl rfl) ?_
 refine a_splitv (d := 86) (t := once) rfl (fun h60_ => ?_) (fun h60_ => ?_)
 refine a_no 2 rfl (by kernel_rfl) (by kernel_rfl) (by kernel_rfl) rfl rfl rfl ?_
 refine a_no 3 rfl (by kernel_rfl) (by kernel_rfl) (by kernel_rfl) rfl rfl rfl ?_
 refine a_no 4 rfl (by kernel_rfl) (by kernel_rfl) (by kernel_rfl) rfl rfl rfl ?_
 refine a_no 5 rfl (by kernel_rfl) (by kernel_rfl) (by kernel_rfl) rfl rfl rfl ?_
 refine a_no 6 rfl (by kernel_rfl) (by kernel_rfl) (by kernel_rfl) rfl rfl rfl ?_
 refine a_no 7 rfl (by kernel_rfl) (by kernel_rfl) (by kernel_rfl) rfl rfl rfl ?_
 refine a_no 8 rfl (by kernel_rfl) (by kernel_rfl) (by kernel_rfl) rfl rfl rfl ?_
 refine a_no 9 rfl (by kernel_rfl) (by kernel_rfl) (by kernel_rfl) rfl rfl rfl ?_
 refine a_no 10 rfl (by kernel_rfl) (by kernel_rfl) (by kernel_rfl) rfl rfl rfl ?_
 refine a_no 11 rfl (by kernel_rfl) (by kernel_rfl) (by kernel_rfl) rfl rfl rfl ?_
 refine a_no 12 rfl (by kernel_rfl) (by kernel_rfl) (by kernel_rfl) rfl rfl rfl ?_
 refine a_v 13 rfl (by kernel_rfl) (by kernel_rfl) (by kernel_rfl) rfl rfl rfl (v_pick rfl rfl rfl rfl) ?_
 refine a_v 14 rfl (by kernel_rfl) (by kernel_rfl) (by kernel_rfl) rfl rfl rfl (v_as rfl rfl) ?_
 refine a_end (by kernel_rfl) ?_
 refine q_block ?_
 refine q_seq ?_
 refine r_ord (l := [0, 1, 2]) rfl (by kernel_rfl) (by kernel_rfl) ?_
 refine s_v rfl rfl rfl rfl (v_mv rfl rfl) ?_
 refine s_v rfl rfl rfl rfl (OpV.cast (v := .int .i64 ((j + 1 : Nat) : Int)) (v_ar rfl rfl rfl rfl) (addN (a := j) (b := 1) (by omega))) ?_
 refine s_v rfl rfl rfl rfl (v_as rfl rfl) ?_
 refine s_end ?_
 exact q_again (j + 1, true) [0, 1, 2, 3] ⟨by omega, by rw [hst, ← hs3, h60_, Bool.true_or]⟩ (by dsimp only; omega) (subF_spec ⟨rfl, rfl, rfl, rfl, rfl, rfl, rfl, rfl, trivial⟩) rfl (by decide)
 refine a_v 2 rfl (by kernel_rfl) (by kernel_rfl) (by kernel_rfl) rfl rfl rfl (v_mv rfl rfl) ?_
 refine a_v 3 rfl (by kernel_rfl) (by kernel_rfl) (by kernel_rfl) rfl rfl rfl (v_mv rfl rfl) ?_
 refine a_v 4 rfl (by kernel_rfl) (by kernel_rfl) (by kernel_rfl) rfl rfl rfl (v_mv rfl rfl) ?_
 refine a_v 5 rfl (by kernel_rfl) (by kernel_rfl) (by kernel_rfl) rfl rfl rfl (v_iaK (i := 0) rfl Try.underlying25 SZ3 rfl rfl rfl rfl (by omega) (by omega)) ?_
 refine a_v 6 rfl (by kernel_rfl) (by kernel_rfl) (by kernel_rfl) rfl rfl rfl (v_ldK (v := .int .i64 (rd (timesL l x l.length) (j : Int))) 0 0 rfl Try.underlying3 rfl rfl rfl rfl (by omega) (by omega) (fun w K h => h)) ?_
 refine a_v 8 rfl (by kernel_rfl) (by kernel_rfl) (by kernel_rfl) rfl rfl rfl (v_mv rfl rfl) ?_
 refine a_v 9 rfl (by kernel_rfl) (by kernel_rfl) (by kernel_rfl) rfl rfl rfl (v_mv rfl rfl) ?_
 refine a_v 10 rfl (by kernel_rfl) (by kernel_rfl) (by kernel_rfl) rfl rfl rfl (v_iaK (i := 3) rfl Try.underlying44 SZ41 rfl rfl rfl rfl (by omega) (by omega)) ?_
 refine a_v 11 rfl (by kernel_rfl) (by kernel_rfl) (by kernel_rfl) rfl rfl rfl (v_ldK (v := .int .u64 (rd x.f6.f3 (i : Int))) 0 3 rfl Try.underlying41 rfl rfl rfl rfl (by omega) (by omega) (fun w K h => h)) ?_
 refine a_1 (i := 7) (by kernel_rfl) ?_
 refine i_e rfl rfl (e_callF [2] #[.slice A l.length c, .int .i64 (rd (timesL l x l.length) (j : Int))] rfl rfl rfl rfl rfl Try.func18 rfl (by decide) rfl rfl rfl rfl (fun w ht => rmap_con A c l (rd (timesL l x l.length) (j : Int)) (by omega) w _)) ?_
 intro A61_ c62_
 refine ⟨(mem_pick (idx := [1, 2, 3, 4]) rfl), ?_⟩
 refine a_1 (i := 12) (by kernel_rfl) ?_
 refine i_e rfl rfl (e_callK (fun z : Unit => .bool ((getM (mapF l (rd (timesL l x l.length) (j : Int)) (ordL l)) (rd x.f6.f3 (i : Int))).2.1)) (fun z => []) #[.slice A61_ (((mapF l (rd (timesL l x l.length) (j : Int)) (ordL l)).map old).length) c62_, .int .u64 (rd x.f6.f3 (i : Int))] rfl rfl rfl rfl rfl Try.func61 rfl (by decide) rfl rfl (fun w ht => stepstoneref08_has.con 5000 _ _ _ (rd x.f6.f3 (i : Int)) _ (hasr_f (mapF l (rd (timesL l x l.length) (j : Int)) (ordL l)) (rd x.f6.f3 (i : Int)) (mapF_len (by omega) _)) w (Tri.fact ht 0 rfl))) ?_
 intro z63_
 refine ⟨(mem_pick (idx := [1, 2, 3, 4]) rfl), ?_⟩
 refine a_v 13 rfl (by kernel_rfl) (by kernel_rfl) (by kernel_rfl) rfl rfl rfl (v_pick rfl rfl rfl rfl) ?_
 refine a_v 14 rfl (by kernel_rfl) (by kernel_rfl) (by kernel_rfl) rfl rfl rfl (v_as rfl rfl) ?_
 refine a_end (by kernel_rfl) ?_
 refine q_block ?_
 refine q_seq ?_
 refine r_ord (l := [0, 1, 2]) rfl (by kernel_rfl) (by kernel_rfl) ?_
 refine s_v rfl rfl rfl rfl (v_mv rfl rfl) ?_
 refine s_v rfl rfl rfl rfl (OpV.cast (v := .int .i64 ((j + 1 : Nat) : Int)) (v_ar rfl rfl rfl rfl) (addN (a := j) (b := 1) (by omega))) ?_
 refine s_v rfl rfl rfl rfl (v_as rfl rfl) ?_
 refine s_end ?_
 exact q_again (j + 1, (getM (mapF l (rd (timesL l x l.length) ((j : Nat) : Int)) (ordL l)) (rd x.f6.f3 ((i : Nat) : Int))).2.1) [1, 2, 3, 4] ⟨by omega, by rw [hst, ← hs3, h60_, Bool.false_or]⟩ (by dsimp only; omega) (subF_spec ⟨rfl, rfl, rfl, rfl, rfl, rfl, rfl, rfl, trivial⟩) rfl (by decide)
 have h59_d := of_decide_eq_false h59_
 have honc0 : once = onceL l x (rd x.f6.f3 (i : Int)) := by rw [once_times]; have h_ := hs.2; rwa [show j = (timesL l x l.length).length by omega, List.take_length] at h_
 refine c_exit (i := 2) rfl rfl ?_
 refine q_then_exit ?_
 refine q_then_exit ?_
 refine q_block_here rfl ?_
 refine q_seq ?_
 refine c_seq rfl ?_
 refine r_ord (l := [0, 1]) rfl (by kernel_rfl) (by kernel_rfl) ?_
 refine s_v rfl rfl rfl rfl (v_mv rfl rfl) ?_
 refine s_v rfl rfl rfl rfl (v_not rfl rfl) ?_
 refine s_end ?_
 refine q_seq ?_
 refine c_cond (t := !once) rfl rfl (fun h64_ => ?_) (fun h64_ => ?_)
 have h64_f : once = false := by simpa using h64_
 refine c_seq rfl ?_
 refine r_ord (l := [0]) rfl (by kernel_rfl) (by kernel_rfl) ?_
 refine s_v rfl rfl rfl rfl (v_as rfl rfl) ?_
 refine s_end ?_
 refine q_seq ?_
 refine c_ret rfl ?_
 refine q_block_ret ?_
 refine q_then_ret ?_
 refine q_then_ret ?_
 refine q_block_ret ?_
 refine q_then_ret ?_
 refine q_take [] rfl (by decide) ?_
 rw [okR_bad4 hil (show onceL l x (rd x.f6.f3 (i : Int)) = false by rw [← honc0]; exact h64_f)] at hX
 exact q_post rfl (.cons rfl (.nil)) hX
 have h64_f : once = true := by simpa using h64_
 refine c_skip rfl ?_
 refine q_block ?_
 refine q_seq ?_
 refine r_ord (l := [0, 1, 2]) rfl (by kernel_rfl) (by kernel_rfl) ?_
 refine s_v rfl rfl rfl rfl (v_mv rfl rfl) ?_
 refine s_v rfl rfl rfl rfl (OpV.cast (v := .int .i64 ((i + 1 : Nat) : Int)) (v_ar rfl rfl rfl rfl) (addN (a := i) (b := 1) (by omega))) ?_
 refine s_v rfl rfl rfl rfl (v_as rfl rfl) ?_
 refine s_end ?_
 have hok : okKey x i = true := by unfold okKey; rw [h55_f, h56_f, h57_f, h58_f]; rfl
 have hon : onceL l x (rd x.f6.f3 (i : Int)) = true := by rw [← honc0]; exact h64_f
 exact q_again (i + 1) [0, 1, 2, 3] ⟨by omega, range_next (n := 0) hs1.2.1 hok, anyI_next' hil hs1.2.2 (by rw [hon]; rfl)⟩ (by show x.f6.f3.length - (i + 1) < x.f6.f3.length - i; omega) (subF_spec ⟨rfl, rfl, rfl, rfl, rfl, rfl, trivial⟩) rfl (by decide)
 have h57_d := of_decide_eq_false h57_
 have h57_f : decide ((i : Int) > 0) = false := h57_
 refine a_no 22 rfl (by kernel_rfl) (by kernel_rfl) (by kernel_rfl) rfl rfl rfl ?_
 refine a_no 23 rfl (by kernel_rfl) (by kernel_rfl) (by kernel_rfl) rfl rfl rfl ?_
 refine a_no 24 rfl (by kernel_rfl) (by kernel_rfl) (by kernel_rfl) rfl rfl rfl ?_
 refine a_no 25 rfl (by kernel_rfl) (by kernel_rfl) (by kernel_rfl) rfl rfl rfl ?_
 refine a_no 26 rfl (by kernel_rfl) (by kernel_rfl) (by kernel_rfl) rfl rfl rfl ?_
 refine a_no 27 rfl (by kernel_rfl) (by kernel_rfl) (by kernel_rfl) rfl rfl rfl ?_
 refine a_no 28 rfl (by kernel_rfl) (by kernel_rfl) (by kernel_rfl) rfl rfl rfl ?_
 refine a_no 29 rfl (by kernel_rfl) (by kernel_rfl) (by kernel_rfl) rfl rfl rfl ?_
 refine a_no 30 rfl (by kernel_rfl) (by kernel_rfl) (by kernel_rfl) rfl rfl rfl ?_
 refine a_no 31 rfl (by kernel_rfl) (by kernel_rfl) (by kernel_rfl) rfl rfl rfl ?_
 refine a_v 32 rfl (by kernel_rfl) (by kernel_rfl) (by kernel_rfl) rfl rfl rfl (v_pick rfl rfl rfl rfl) ?_
 refine a_v 33 rfl (by kernel_rfl) (by kernel_rfl) (by kernel_rfl) rfl rfl rfl (v_pick rfl rfl rfl rfl) ?_
 refine a_end (by kernel_rfl) ?_
 refine q_seq ?_
 refine c_cond0 rfl rfl ?_
 refine c_skip rfl ?_
 refine q_seq ?_
 refine c_seq rfl ?_
 refine r_ord (l := [0]) rfl (by kernel_rfl) (by kernel_rfl) ?_
 refine s_v rfl rfl rfl rfl (v_as rfl rfl) ?_
 refine s_end ?_
 refine q_seq ?_
 refine c_seq rfl ?_
 refine c_seq rfl ?_
 refine r_ord (l := [0]) rfl (by kernel_rfl) (by kernel_rfl) ?_
 refine s_v rfl rfl rfl rfl (v_as rfl rfl) ?_
 refine s_end ?_
 refine q_seq ?_
 refine c_block rfl ?_
 refine c_loop (σ := (Nat × Bool)) (fun s : (Nat × Bool) => match s with | (j, once) => j ≤ (timesL l x l.length).length ∧ once = ((timesL l x l.length).take j).any (fun t => (getM (mapF l t (ordL l)) (rd x.f6.f3 (i : Int))).2.1)) (fun s : (Nat × Bool) => match s with | (j, once) => (timesL l x l.length).length - j) (fun s : (Nat × Bool) => match s with | (j, once) => [(0, .slice A l.length c), (3, .pointer (some ⟨b1_, 0, none⟩)), (5, .slice AE x.f6.f3.length cE), (6, .int .i64 x.f1.f3), (7, .slice A52_ ((timesL l x l.length).length) c53_), (8, .int .i64 (i : Int)), (10, .int .i64 (j : Int)), (9, .bool once)]) (fun s : (Nat × Bool) => match s with | (j, once) => [.f (KC (Kd.int .i64) A52_ c53_ (timesL l x l.length)), .b b1_ (.cells #[.int .i64 x.f0, .int .i64 x.f1.f0, .int .u64 x.f1.f1, .int .u64 x.f1.f2, .int .i64 x.f1.f3, .int .i64 x.f1.f4, .int .i64 x.f2, .int .i64 x.f3, .int .i64 x.f4, .bool x.f5, .bool x.f6.f0, .bool x.f6.f1, .int .u64 x.f6.f2, .slice AE x.f6.f3.length cE] 48 (0, 0)), .f (KC k48 A c l), .f (KC (Kd.int .u64) AE cE x.f6.f3)]) (0, false) [0, 1, 2, 3] rfl ⟨Nat.zero_le _, rfl⟩ (subF_spec ⟨rfl, rfl, rfl, rfl, rfl, rfl, rfl, rfl, trivial⟩) rfl (by decide) ?_
 rintro ⟨j, once⟩ hs
 have hs : j ≤ (timesL l x l.length).length ∧ once = ((timesL l x l.length).take j).any (fun t => (getM (mapF l t (ordL l)) (rd x.f6.f3 (i : Int))).2.1) := hs
 have hj_ := hs.1
 have hs3 := hs.2
 have htl := times_len l x l.length
 refine c_seq rfl ?_
 refine c_seq rfl ?_
 refine r_ord (l := [0, 1, 2, 3]) rfl (by kernel_rfl) (by kernel_rfl) ?_
 refine s_v rfl rfl rfl rfl (v_mv rfl rfl) ?_
 refine s_v rfl rfl rfl rfl (v_mv rfl rfl) ?_
 refine s_v rfl rfl rfl rfl (v_len rfl rfl rfl Try.underlying25 rfl rfl) ?_
 refine s_v rfl rfl rfl rfl (v_ar rfl rfl rfl rfl) ?_
 refine s_end ?_
 refine q_seq ?_
 refine c_cond (t := decide (((j : Int) : Int) < ((timesL l x l.length).length : Nat))) rfl rfl (fun h65_ => ?_) (fun h65_ => ?_)
 have h65_d := of_decide_eq_true h65_
 have hjl : j < (timesL l x l.length).length := by omega
 have hst := any_nextG (p := (fun t => (getM (mapF l t (ordL l)) (rd x.f6.f3 (i : Int))).2.1)) hjl
 rw [← rdI hjl] at hst
 refine c_skip rfl ?_
 refine q_seq ?_
 refine c_seq rfl ?_
 refine c_block rfl ?_
 refine r_any [.f (KC (Kd.int .i64) A52_ c53_ (timesL l x l.length)), .b b1_ (.cells #[.int .i64 x.f0, .int .i64 x.f1.f0, .int .u64 x.f1.f1, .int .u64 x.f1.f2, .int .i64 x.f1.f3, .int .i64 x.f1.f4, .int .i64 x.f2, .int .i64 x.f3, .int .i64 x.f4, .bool x.f5, .bool x.f6.f0, .bool x.f6.f1, .int .u64 x.f6.f2, .slice AE x.f6.f3.length cE] 48 (0, 0)), .f (KC k48 A c l), .f (KC (Kd.int .u64) AE cE x.f6.f3)] (by kernel_rfl) rfl (by kernel_rfl) (mem_pick (idx := [0, 1, 2, 3]) rfl) ?_
 refine a_v 0 rfl (by kernel_rfl) (by kernel_rfl) (by kernel_rfl) rfl rfl rfl (v_mv rfl rfl) ?_
 refine a_v 1 rfl (by kernel_rfl) (by kernel_rfl) (by kernel_rfl) rfl rfl rfl (v_mv rfl rfl) ?_
 refine a_splitv (d := 86) (t := once) rfl (fun h66_ => ?_) (fun h66_ => ?_)
 refine a_no 2 rfl (by kernel_rfl) (by kernel_rfl) (by kernel_rfl) rfl rfl rfl ?_
 refine a_no 3 rfl (by kernel_rfl) (by kernel_rfl) (by kernel_rfl) rfl rfl rfl ?_
 refine a_no 4 rfl (by kernel_rfl) (by kernel_rfl) (by kernel_rfl) rfl rfl rfl ?_
 refine a_no 5 rfl (by kernel_rfl) (by kernel_rfl) (by kernel_rfl) rfl rfl rfl ?_
 refine a_no 6 rfl (by kernel_rfl) (by kernel_rfl) (by kernel_rfl) rfl rfl rfl ?_
 refine a_no 7 rfl (by kernel_rfl) (by kernel_rfl) (by kernel_rfl) rfl rfl rfl ?_
 refine a_no 8 rfl (by kernel_rfl) (by kernel_rfl) (by kernel_rfl) rfl rfl rfl ?_
 refine a_no 9 rfl (by kernel_rfl) (by kernel_rfl) (by kernel_rfl) rfl rfl rfl ?_
 refine a_no 10 rfl (by kernel_rfl) (by kernel_rfl) (by kernel_rfl) rfl rfl rfl ?_
 refine a_no 11 rfl (by kernel_rfl) (by kernel_rfl) (by kernel_rfl) rfl rfl rfl ?_
 refine a_no 12 rfl (by kernel_rfl) (by kernel_rfl) (by kernel_rfl) rfl rfl rfl ?_
 refine a_v 13 rfl (by kernel_rfl) (by kernel_rfl) (by kernel_rfl) rfl rfl rfl (v_pick rfl rfl rfl rfl) ?_
 refine a_v 14 rfl (by kernel_rfl) (by kernel_rfl) (by kernel_rfl) rfl rfl rfl (v_as rfl rfl) ?_
 refine a_end (by kernel_rfl) ?_
 refine q_block ?_
 refine q_seq ?_
 refine r_ord (l := [0, 1, 2]) rfl (by kernel_rfl) (by kernel_rfl) ?_
 refine s_v rfl rfl rfl rfl (v_mv rfl rfl) ?_
 refine s_v rfl rfl rfl rfl (OpV.cast (v := .int .i64 ((j + 1 : Nat) : Int)) (v_ar rfl rfl rfl rfl) (addN (a := j) (b := 1) (by omega))) ?_
 refine s_v rfl rfl rfl rfl (v_as rfl rfl) ?_
 refine s_end ?_
 exact q_again (j + 1, true) [0, 1, 2, 3] ⟨by omega, by rw [hst, ← hs3, h66_, Bool.true_or]⟩ (by dsimp only; omega) (subF_spec ⟨rfl, rfl, rfl, rfl, rfl, rfl, rfl, rfl, trivial⟩) rfl (by decide)
 refine a_v 2 rfl (by kernel_rfl) (by kernel_rfl) (by kernel_rfl) rfl rfl rfl (v_mv rfl rfl) ?_
 refine a_v 3 rfl (by kernel_rfl) (by kernel_rfl) (by kernel_rfl) rfl rfl rfl (v_mv rfl rfl) ?_
 refine a_v 4 rfl (by kernel_rfl) (by kernel_rfl) (by kernel_rfl) rfl rfl rfl (v_mv rfl rfl) ?_
 refine a_v 5 rfl (by kernel_rfl) (by kernel_rfl) (by kernel_rfl) rfl rfl rfl (v_iaK (i := 0) rfl Try.underlying25 SZ3 rfl rfl rfl rfl (by omega) (by omega)) ?_
 refine a_v 6 rfl (by kernel_rfl) (by kernel_rfl) (by kernel_rfl) rfl rfl rfl (v_ldK (v := .int .i64 (rd (timesL l x l.length) (j : Int))) 0 0 rfl Try.underlying3 rfl rfl rfl rfl (by omega) (by omega) (fun w K h => h)) ?_
 refine a_v 8 rfl (by kernel_rfl) (by kernel_rfl) (by kernel_rfl) rfl rfl rfl (v_mv rfl rfl) ?_
 refine a_v 9 rfl (by kernel_rfl) (by kernel_rfl) (by kernel_rfl) rfl rfl rfl (v_mv rfl rfl) ?_
 refine a_v 10 rfl (by kernel_rfl) (by kernel_rfl) (by kernel_rfl) rfl rfl rfl (v_iaK (i := 3) rfl Try.underlying44 SZ41 rfl rfl rfl rfl (by omega) (by omega)) ?_
 refine a_v 11 rfl (by kernel_rfl) (by kernel_rfl) (by kernel_rfl) rfl rfl rfl (v_ldK (v := .int .u64 (rd x.f6.f3 (i : Int))) 0 3 rfl Try.underlying41 rfl rfl rfl rfl (by omega) (by omega) (fun w K h => h)) ?_
 refine a_1 (i := 7) (by kernel_rfl) ?_
 refine i_e rfl rfl (e_callF [2] #[.slice A l.length c, .int .i64 (rd (timesL l x l.length) (j : Int))] rfl rfl rfl rfl rfl Try.func18 rfl (by decide) rfl rfl rfl rfl (fun w ht => rmap_con A c l (rd (timesL l x l.length) (j : Int)) (by omega) w _)) ?_
 intro A67_ c68_
 refine ⟨(mem_pick (idx := [1, 2, 3, 4]) rfl), ?_⟩
 refine a_1 (i := 12) (by kernel_rfl) ?_
 refine i_e rfl rfl (e_callK (fun z : Unit => .bool ((getM (mapF l (rd (timesL l x l.length) (j : Int)) (ordL l)) (rd x.f6.f3 (i : Int))).2.1)) (fun z => []) #[.slice A67_ (((mapF l (rd (timesL l x l.length) (j : Int)) (ordL l)).map old).length) c68_, .int .u64 (rd x.f6.f3 (i : Int))] rfl rfl rfl rfl rfl Try.func61 rfl (by decide) rfl rfl (fun w ht => stepstoneref08_has.con 5000 _ _ _ (rd x.f6.f3 (i : Int)) _ (hasr_f (mapF l (rd (timesL l x l.length) (j : Int)) (ordL l)) (rd x.f6.f3 (i : Int)) (mapF_len (by omega) _)) w (Tri.fact ht 0 rfl))) ?_
 intro z69_
 refine ⟨(mem_pick (idx := [1, 2, 3, 4]) rfl), ?_⟩
 refine a_v 13 rfl (by kernel_rfl) (by kernel_rfl) (by kernel_rfl) rfl rfl rfl (v_pick rfl rfl rfl rfl) ?_
 refine a_v 14 rfl (by kernel_rfl) (by kernel_rfl) (by kernel_rfl) rfl rfl rfl (v_as rfl rfl) ?_
 refine a_end (by kernel_rfl) ?_
 refine q_block ?_
 refine q_seq ?_
 refine r_ord (l := [0, 1, 2]) rfl (by kernel_rfl) (by kernel_rfl) ?_
 refine s_v rfl rfl rfl rfl (v_mv rfl rfl) ?_
 refine s_v rfl rfl rfl rfl (OpV.cast (v := .int .i64 ((j + 1 : Nat) : Int)) (v_ar rfl rfl rfl rfl) (addN (a := j) (b := 1) (by omega))) ?_
 refine s_v rfl rfl rfl rfl (v_as rfl rfl) ?_
 refine s_end ?_
 exact q_again (j + 1, (getM (mapF l (rd (timesL l x l.length) ((j : Nat) : Int)) (ordL l)) (rd x.f6.f3 ((i : Nat) : Int))).2.1) [1, 2, 3, 4] ⟨by omega, by rw [hst, ← hs3, h66_, Bool.false_or]⟩ (by dsimp only; omega) (subF_spec ⟨rfl, rfl, rfl, rfl, rfl, rfl, rfl, rfl, trivial⟩) rfl (by decide)
 have h65_d := of_decide_eq_false h65_
 have honc0 : once = onceL l x (rd x.f6.f3 (i : Int)) := by rw [once_times]; have h_ := hs.2; rwa [show j = (timesL l x l.length).length by omega, List.take_length] at h_
 refine c_exit (i := 2) rfl rfl ?_
 refine q_then_exit ?_
 refine q_then_exit ?_
 refine q_block_here rfl ?_
 refine q_seq ?_
 refine c_seq rfl ?_
 refine r_ord (l := [0, 1]) rfl (by kernel_rfl) (by kernel_rfl) ?_
 refine s_v rfl rfl rfl rfl (v_mv rfl rfl) ?_
 refine s_v rfl rfl rfl rfl (v_not rfl rfl) ?_
 refine s_end ?_
 refine q_seq ?_
 refine c_cond (t := !once) rfl rfl (fun h70_ => ?_) (fun h70_ => ?_)
 have h70_f : once = false := by simpa using h70_
 refine c_seq rfl ?_
 refine r_ord (l := [0]) rfl (by kernel_rfl) (by kernel_rfl) ?_
 refine s_v rfl rfl rfl rfl (v_as rfl rfl) ?_
 refine s_end ?_
 refine q_seq ?_
 refine c_ret rfl ?_
 refine q_block_ret ?_
 refine q_then_ret ?_
 refine q_then_ret ?_
 refine q_block_ret ?_
 refine q_then_ret ?_
 refine q_take [] rfl (by decide) ?_
 rw [okR_bad4 hil (show onceL l x (rd x.f6.f3 (i : Int)) = false by rw [← honc0]; exact h70_f)] at hX
 exact q_post rfl (.cons rfl (.nil)) hX
 have h70_f : once = true := by simpa using h70_
 refine c_skip rfl ?_
 refine q_block ?_
 refine q_seq ?_
 refine r_ord (l := [0, 1, 2]) rfl (by kernel_rfl) (by kernel_rfl) ?_
 refine s_v rfl rfl rfl rfl (v_mv rfl rfl) ?_
 refine s_v rfl rfl rfl rfl (OpV.cast (v := .int .i64 ((i + 1 : Nat) : Int)) (v_ar rfl rfl rfl rfl) (addN (a := i) (b := 1) (by omega))) ?_
 refine s_v rfl rfl rfl rfl (v_as rfl rfl) ?_
 refine s_end ?_
 have hok : okKey x i = true := by unfold okKey; rw [h55_f, h56_f, h57_f]; rfl
 have hon : onceL l x (rd x.f6.f3 (i : Int)) = true := by rw [← honc0]; exact h70_f
 exact q_again (i + 1) [0, 1, 2, 3] ⟨by omega, range_next (n := 0) hs1.2.1 hok, anyI_next' hil hs1.2.2 (by rw [hon]; rfl)⟩ (by show x.f6.f3.length - (i + 1) < x.f6.f3.length - i; omega) (subF_spec ⟨rfl, rfl, rfl, rfl, rfl, rfl, trivial⟩) rfl (by decide)
 have h54_d := of_decide_eq_false h54_
 have hkeys : (List.range x.f6.f3.length).all (okKey x) = true := by have h_ := hs.2.1; rwa [show i = x.f6.f3.length by omega] at h_
 have honce : x.f6.f3.any (fun k => !(onceL l x k)) = false := any_noneI (i := i) (by omega) hs.2.2
 refine c_exit (i := 0) rfl rfl ?_
 refine q_then_exit ?_
 refine q_then_exit ?_
 refine q_block_here rfl ?_
 refine q_seq ?_
 refine c_seq rfl ?_
 refine r_ord (l := [0, 1, 2, 3, 4]) rfl (by kernel_rfl) (by kernel_rfl) ?_
 refine s_v rfl rfl rfl rfl (v_mv rfl rfl) ?_
 refine s_v rfl rfl rfl rfl (v_fa rfl Try.underlying48 rfl SZ3 rfl) ?_
 refine s_v rfl rfl rfl rfl (v_ld 1 rfl Try.underlying3 rfl rfl rfl rfl) ?_
 refine s_e rfl rfl (e_callF [2] #[.slice A l.length c, .int .i64 x.f2] rfl rfl rfl rfl rfl Try.func18 rfl (by decide) rfl rfl rfl rfl (fun w ht => rmap_con A c l x.f2 (by omega) w _)) ?_
 intro A71_ c72_
 refine s_v rfl rfl rfl rfl (v_as rfl rfl) ?_
 refine s_end ?_
 refine q_seq ?_
 refine c_seq rfl ?_
 refine c_seq rfl ?_
 refine r_ord (l := [0]) rfl (by kernel_rfl) (by kernel_rfl) ?_
 refine s_v rfl rfl rfl rfl (v_as rfl rfl) ?_
 refine s_end ?_
 refine q_seq ?_
 refine c_block rfl ?_
 refine c_loop (σ := Nat) (fun p => p ≤ (mapF l x.f2 (ordL l)).length ∧ ((mapF l x.f2 (ordL l)).take p).all (fun y : S56 => !(pairBad l x y.f0)) = true) (fun p => (mapF l x.f2 (ordL l)).length - p) (fun p => [(0, .slice A l.length c), (3, .pointer (some ⟨b1_, 0, none⟩)), (5, .slice AE x.f6.f3.length cE), (6, .int .i64 x.f1.f3), (7, .slice A52_ ((timesL l x l.length).length) c53_), (11, .slice A71_ (((mapF l x.f2 (ordL l)).map old).length) c72_), (12, .int .i64 (p : Int))]) (fun p => [.f (KC k61 A71_ c72_ ((mapF l x.f2 (ordL l)).map old)), .f (KC (Kd.int .i64) A52_ c53_ (timesL l x l.length)), .b b1_ (.cells #[.int .i64 x.f0, .int .i64 x.f1.f0, .int .u64 x.f1.f1, .int .u64 x.f1.f2, .int .i64 x.f1.f3, .int .i64 x.f1.f4, .int .i64 x.f2, .int .i64 x.f3, .int .i64 x.f4, .bool x.f5, .bool x.f6.f0, .bool x.f6.f1, .int .u64 x.f6.f2, .slice AE x.f6.f3.length cE] 48 (0, 0)), .f (KC k48 A c l), .f (KC (Kd.int .u64) AE cE x.f6.f3)]) 0 [0, 1, 2, 3, 4] rfl ⟨Nat.zero_le _, rfl⟩ (subF_spec ⟨rfl, rfl, rfl, rfl, rfl, rfl, rfl, trivial⟩) rfl (by decide) ?_
 rintro p hs
 have hp_ : p ≤ (mapF l x.f2 (ordL l)).length := hs.1
 have hs1 := hs
 have hml := mapF_len (l := l) (by omega) x.f2
 refine c_seq rfl ?_
 refine c_seq rfl ?_
 refine r_ord (l := [0, 1, 2, 3]) rfl (by kernel_rfl) (by kernel_rfl) ?_
 refine s_v rfl rfl rfl rfl (v_mv rfl rfl) ?_
 refine s_v rfl rfl rfl rfl (v_mv rfl rfl) ?_
 refine s_v rfl rfl rfl rfl (v_len rfl rfl rfl Try.underlying31 rfl rfl) ?_
 refine s_v rfl rfl rfl rfl (v_ar rfl rfl rfl rfl) ?_
 refine s_end ?_
 refine q_seq ?_
 refine c_cond (t := decide (((p : Int) : Int) < (((mapF l x.f2 (ordL l)).map old).length : Nat))) rfl rfl (fun h73_ => ?_) (fun h73_ => ?_)
 have h73_d := of_decide_eq_true h73_
 have hpl0 : p < ((mapF l x.f2 (ordL l)).map old).length := by omega
 have hpl : p < (mapF l x.f2 (ordL l)).length := by simpa using hpl0
 have hpo := rdo hpl
 refine c_skip rfl ?_
 refine q_seq ?_
 refine c_seq rfl ?_
 refine c_block rfl ?_
 refine c_seq rfl ?_
 refine r_ord (l := [0, 1, 2, 3, 4, 5]) rfl (by kernel_rfl) (by kernel_rfl) ?_
 refine s_v rfl rfl rfl rfl (v_mv rfl rfl) ?_
 refine s_v rfl rfl rfl rfl (v_mv rfl rfl) ?_
 refine s_v rfl rfl rfl rfl (v_iaK (i := 0) rfl Try.underlying31 SZ61 rfl rfl rfl rfl (by omega) (by omega)) ?_
 refine s_v rfl rfl rfl rfl (v_fax rfl Try.underlying61 rfl SZ41 rfl) ?_
 refine s_v rfl rfl rfl rfl (v_ldKf (v := .int .u64 ((rd_T61 ((mapF l x.f2 (ordL l)).map old) (p : Int)).f0)) z61 [.int .u64 ((rd_T61 ((mapF l x.f2 (ordL l)).map old) (p : Int)).f0), .int .u64 ((rd_T61 ((mapF l x.f2 (ordL l)).map old) (p : Int)).f1)] 0 rfl Try.underlying41 rfl rfl rfl rfl (by omega) (by omega) (fun w K h => k61_open h) rfl) ?_
 refine s_v rfl rfl rfl rfl (v_as rfl rfl) ?_
 refine s_end ?_
 refine q_seq ?_
 refine c_seq rfl ?_
 refine r_ord (l := [0, 1, 2, 3, 4, 5, 6, 7, 8, 9, 10, 11, 12]) rfl (by kernel_rfl) (by kernel_rfl) ?_
 refine s_v rfl rfl rfl rfl (v_mv rfl rfl) ?_
 refine s_v rfl rfl rfl rfl (v_fa rfl Try.underlying48 rfl SZ43 rfl) ?_
 refine s_v rfl rfl rfl rfl (v_fa rfl Try.underlying43 rfl SZ41 rfl) ?_
 refine s_v rfl rfl rfl rfl (v_ld 2 rfl Try.underlying41 rfl rfl rfl rfl) ?_
 refine s_v rfl rfl rfl rfl (v_ar rfl rfl rfl rfl) ?_
 refine s_v rfl rfl rfl rfl (v_mv rfl rfl) ?_
 refine s_splitv (d := 121) (t := decide (((rd_T61 ((mapF l x.f2 (ordL l)).map old) (p : Int)).f0 : Int) ≥ x.f1.f1)) rfl (fun h74_ => ?_) (fun h74_ => ?_)
 have h74_d := of_decide_eq_true h74_
 have h74_f : decide ((rd_T61 ((mapF l x.f2 (ordL l)).map old) (p : Int)).f0 ≥ x.f1.f1) = true := h74_
 refine s_vg rfl rfl rfl rfl (v_mv rfl rfl) ?_
 refine s_vg rfl rfl rfl rfl (v_fa rfl Try.underlying48 rfl SZ43 rfl) ?_
 refine s_vg rfl rfl rfl rfl (v_fa rfl Try.underlying43 rfl SZ41 rfl) ?_
 refine s_vg rfl rfl rfl rfl (v_ld 2 rfl Try.underlying41 rfl rfl rfl rfl) ?_
 refine s_vg rfl rfl rfl rfl (v_ar rfl rfl rfl rfl) ?_
 refine s_v rfl rfl rfl rfl (v_pick rfl rfl rfl rfl) ?_
 refine s_v rfl rfl rfl rfl (v_as rfl rfl) ?_
 refine s_end ?_
 refine q_seq ?_
 refine c_seq rfl ?_
 refine c_seq rfl ?_
 refine r_ord (l := [0]) rfl (by kernel_rfl) (by kernel_rfl) ?_
 refine s_v rfl rfl rfl rfl (v_as rfl rfl) ?_
 refine s_end ?_
 refine q_seq ?_
 refine c_block rfl ?_
 refine c_loop (σ := (Nat × Bool)) (fun s : (Nat × Bool) => match s with | (j, always) => j ≤ (timesL l x l.length).length ∧ always = ((decide (((rd_T61 ((mapF l x.f2 (ordL l)).map old) (p : Int)).f0 : Int) ≤ x.f1.f2)) && ((timesL l x l.length).take j).all (fun t => (getM (mapF l t (ordL l)) ((rd_T61 ((mapF l x.f2 (ordL l)).map old) (p : Int)).f0)).2.1))) (fun s : (Nat × Bool) => match s with | (j, always) => (timesL l x l.length).length - j) (fun s : (Nat × Bool) => match s with | (j, always) => [(0, .slice A l.length c), (3, .pointer (some ⟨b1_, 0, none⟩)), (5, .slice AE x.f6.f3.length cE), (6, .int .i64 x.f1.f3), (7, .slice A52_ ((timesL l x l.length).length) c53_), (11, .slice A71_ (((mapF l x.f2 (ordL l)).map old).length) c72_), (12, .int .i64 (p : Int)), (13, .int .u64 ((rd_T61 ((mapF l x.f2 (ordL l)).map old) (p : Int)).f0)), (15, .int .i64 (j : Int)), (14, .bool always)]) (fun s : (Nat × Bool) => match s with | (j, always) => [.f (KC k61 A71_ c72_ ((mapF l x.f2 (ordL l)).map old)), .f (KC (Kd.int .i64) A52_ c53_ (timesL l x l.length)), .b b1_ (.cells #[.int .i64 x.f0, .int .i64 x.f1.f0, .int .u64 x.f1.f1, .int .u64 x.f1.f2, .int .i64 x.f1.f3, .int .i64 x.f1.f4, .int .i64 x.f2, .int .i64 x.f3, .int .i64 x.f4, .bool x.f5, .bool x.f6.f0, .bool x.f6.f1, .int .u64 x.f6.f2, .slice AE x.f6.f3.length cE] 48 (0, 0)), .f (KC k48 A c l), .f (KC (Kd.int .u64) AE cE x.f6.f3)]) (0, decide (((rd_T61 ((mapF l x.f2 (ordL l)).map old) (p : Int)).f0 : Int) ≤ x.f1.f2)) [0, 1, 2, 3, 4] rfl ⟨Nat.zero_le _, by simp⟩ (subF_spec ⟨rfl, rfl, rfl, rfl, rfl, rfl, rfl, rfl, rfl, rfl, trivial⟩) rfl (by decide) ?_
 rintro ⟨j, always⟩ hs
 have hs : j ≤ (timesL l x l.length).length ∧ always = ((decide (((rd_T61 ((mapF l x.f2 (ordL l)).map old) ((p : Nat) : Int)).f0 : Int) ≤ x.f1.f2)) && ((timesL l x l.length).take j).all (fun t => (getM (mapF l t (ordL l)) ((rd_T61 ((mapF l x.f2 (ordL l)).map old) (p : Int)).f0)).2.1)) := hs
 have hj_ := hs.1
 have hs3 := hs.2
 have htl := times_len l x l.length
 refine c_seq rfl ?_
 refine c_seq rfl ?_
 refine r_ord (l := [0, 1, 2, 3]) rfl (by kernel_rfl) (by kernel_rfl) ?_
 refine s_v rfl rfl rfl rfl (v_mv rfl rfl) ?_
 refine s_v rfl rfl rfl rfl (v_mv rfl rfl) ?_
 refine s_v rfl rfl rfl rfl (v_len rfl rfl rfl Try.underlying25 rfl rfl) ?_
 refine s_v rfl rfl rfl rfl (v_ar rfl rfl rfl rfl) ?_
 refine s_end ?_
 refine q_seq ?_
 refine c_cond (t := decide (((j : Int) : Int) < ((timesL l x l.length).length : Nat))) rfl rfl (fun h75_ => ?_) (fun h75_ => ?_)
 have h75_d := of_decide_eq_true h75_
 have hjl : j < (timesL l x l.length).length := by omega
 have hst := all_nextE (p := (fun t => (getM (mapF l t (ordL l)) ((rd_T61 ((mapF l x.f2 (ordL l)).map old) (p : Int)).f0)).2.1)) hjl
 rw [← rdI hjl] at hst
 refine c_skip rfl ?_
 refine q_seq ?_
 refine c_seq rfl ?_
 refine c_block rfl ?_
 refine r_ord (l := [0, 1, 2, 3, 4, 5, 6, 7, 8, 9, 10, 11]) rfl (by kernel_rfl) (by kernel_rfl) ?_
 refine s_v rfl rfl rfl rfl (v_mv rfl rfl) ?_
 refine s_v rfl rfl rfl rfl (v_mv rfl rfl) ?_
 refine s_splitv (d := 135) (t := always) rfl (fun h76_ => ?_) (fun h76_ => ?_)
 refine s_vg rfl rfl rfl rfl (v_mv rfl rfl) ?_
 refine s_vg rfl rfl rfl rfl (v_mv rfl rfl) ?_
 refine s_vg rfl rfl rfl rfl (v_mv rfl rfl) ?_
 refine s_vg rfl rfl rfl rfl (v_iaK (i := 1) rfl Try.underlying25 SZ3 rfl rfl rfl rfl (by omega) (by omega)) ?_
 refine s_vg rfl rfl rfl rfl (v_ldK (v := .int .i64 (rd (timesL l x l.length) (j : Int))) 0 1 rfl Try.underlying3 rfl rfl rfl rfl (by omega) (by omega) (fun w K h => h)) ?_
 refine s_eg rfl rfl (e_callF [3] #[.slice A l.length c, .int .i64 (rd (timesL l x l.length) (j : Int))] rfl rfl rfl rfl rfl Try.func18 rfl (by decide) rfl rfl rfl rfl (fun w ht => rmap_con A c l (rd (timesL l x l.length) (j : Int)) (by omega) w _)) ?_
 intro A77_ c78_
 refine s_vg rfl rfl rfl rfl (v_mv rfl rfl) ?_
 refine s_eg rfl rfl (e_callK (fun z : Unit => .bool ((getM (mapF l (rd (timesL l x l.length) (j : Int)) (ordL l)) ((rd_T61 ((mapF l x.f2 (ordL l)).map old) (p : Int)).f0)).2.1)) (fun z => []) #[.slice A77_ (((mapF l (rd (timesL l x l.length) (j : Int)) (ordL l)).map old).length) c78_, .int .u64 ((rd_T61 ((mapF l x.f2 (ordL l)).map old) (p : Int)).f0)] rfl rfl rfl rfl rfl Try.func61 rfl (by decide) rfl rfl (fun w ht => stepstoneref08_has.con 5000 _ _ _ ((rd_T61 ((mapF l x.f2 (ordL l)).map old) (p : Int)).f0) _ (hasr_f (mapF l (rd (timesL l x l.length) (j : Int)) (ordL l)) ((rd_T61 ((mapF l x.f2 (ordL l)).map old) (p : Int)).f0) (mapF_len (by omega) _)) w (Tri.fact ht 0 rfl))) ?_
 intro z79_
 refine s_v rfl rfl rfl rfl (v_pick rfl rfl rfl rfl) ?_
 refine s_v rfl rfl rfl rfl (v_as rfl rfl) ?_
 refine s_end ?_
 refine q_block ?_
 refine q_seq ?_
 refine r_ord (l := [0, 1, 2]) rfl (by kernel_rfl) (by kernel_rfl) ?_
 refine s_v rfl rfl rfl rfl (v_mv rfl rfl) ?_
 refine s_v rfl rfl rfl rfl (OpV.cast (v := .int .i64 ((j + 1 : Nat) : Int)) (v_ar rfl rfl rfl rfl) (addN (a := j) (b := 1) (by omega))) ?_
 refine s_v rfl rfl rfl rfl (v_as rfl rfl) ?_
 refine s_end ?_
 exact q_again (j + 1, (getM (mapF l (rd (timesL l x l.length) ((j : Nat) : Int)) (ordL l)) ((rd_T61 ((mapF l x.f2 (ordL l)).map old) ((p : Nat) : Int)).f0)).2.1) [1, 2, 3, 4, 5] ⟨by omega, by rw [hst, ← Bool.and_assoc, ← hs3, h76_, Bool.true_and]⟩ (by dsimp only; omega) (subF_spec ⟨rfl, rfl, rfl, rfl, rfl, rfl, rfl, rfl, rfl, rfl, trivial⟩) rfl (by decide)
 refine s_no rfl rfl rfl rfl ?_
 refine s_no rfl rfl rfl rfl ?_
 refine s_no rfl rfl rfl rfl ?_
 refine s_no rfl rfl rfl rfl ?_
 refine s_no rfl rfl rfl rfl ?_
 refine s_no rfl rfl rfl rfl ?_
 refine s_no rfl rfl rfl rfl ?_
 refine s_no rfl rfl rfl rfl ?_
 refine s_v rfl rfl rfl rfl (v_pick rfl rfl rfl rfl) ?_
 refine s_v rfl rfl rfl rfl (v_as rfl rfl) ?_
 refine s_end ?_
 refine q_block ?_
 refine q_seq ?_
 refine r_ord (l := [0, 1, 2]) rfl (by kernel_rfl) (by kernel_rfl) ?_
 refine s_v rfl rfl rfl rfl (v_mv rfl rfl) ?_
 refine s_v rfl rfl rfl rfl (OpV.cast (v := .int .i64 ((j + 1 : Nat) : Int)) (v_ar rfl rfl rfl rfl) (addN (a := j) (b := 1) (by omega))) ?_
 refine s_v rfl rfl rfl rfl (v_as rfl rfl) ?_
 refine s_end ?_
 exact q_again (j + 1, false) [0, 1, 2, 3, 4] ⟨by omega, by rw [hst, ← Bool.and_assoc, ← hs3, h76_, Bool.false_and]⟩ (by dsimp only; omega) (subF_spec ⟨rfl, rfl, rfl, rfl, rfl, rfl, rfl, rfl, rfl, rfl, trivial⟩) rfl (by decide)
 have h75_d := of_decide_eq_false h75_
 have halw : always = ((decide (((rd_T61 ((mapF l x.f2 (ordL l)).map old) ((p : Nat) : Int)).f0 : Int) ≤ x.f1.f2)) && alwaysL l x ((rd_T61 ((mapF l x.f2 (ordL l)).map old) (p : Int)).f0)) := by rw [always_times]; have h_ := hs.2; rwa [show j = (timesL l x l.length).length by omega, List.take_length] at h_
 refine c_exit (i := 6) rfl rfl ?_
 refine q_then_exit ?_
 refine q_then_exit ?_
 refine q_block_here rfl ?_
 refine q_seq ?_
 refine c_seq rfl ?_
 refine r_ord (l := [0, 1, 2, 3, 4, 5, 6, 7, 8, 9, 10, 11, 12, 13, 14, 15, 16, 17]) rfl (by kernel_rfl) (by kernel_rfl) ?_
 refine s_v rfl rfl rfl rfl (v_mv rfl rfl) ?_
 refine s_v rfl rfl rfl rfl (v_len rfl rfl rfl Try.underlying44 rfl rfl) ?_
 refine s_v rfl rfl rfl rfl (v_mv rfl rfl) ?_
 refine s_v rfl rfl rfl rfl (v_ar rfl rfl rfl rfl) ?_
 refine s_v rfl rfl rfl rfl (v_mv rfl rfl) ?_
 refine s_splitv (d := 149) (t := ((x.f6.f3.length : Nat) : Int) == x.f1.f3) rfl (fun h80_ => ?_) (fun h80_ => ?_)
 have h80_d : (x.f6.f3.length : Nat) = x.f1.f3 := by simpa using h80_
 refine s_vg rfl rfl rfl rfl (v_mv rfl rfl) ?_
 refine s_vg rfl rfl rfl rfl (v_ar rfl rfl rfl rfl) ?_
 refine s_vg rfl rfl rfl rfl (v_mv rfl rfl) ?_
 refine s_splitv (d := 152) (t := (x.f1.f3 : Int) == 0) rfl (fun h81_ => ?_) (fun h81_ => ?_)
 have h81_d : x.f1.f3 = 0 := by simpa using h81_
 refine s_no rfl rfl rfl rfl ?_
 refine s_no rfl rfl rfl rfl ?_
 refine s_no rfl rfl rfl rfl ?_
 refine s_no rfl rfl rfl rfl ?_
 refine s_no rfl rfl rfl rfl ?_
 refine s_no rfl rfl rfl rfl ?_
 refine s_no rfl rfl rfl rfl ?_
 refine s_vg rfl rfl rfl rfl (v_pick rfl rfl rfl rfl) ?_
 refine s_v rfl rfl rfl rfl (v_pick rfl rfl rfl rfl) ?_
 refine s_v rfl rfl rfl rfl (v_as rfl rfl) ?_
 refine s_end ?_
 refine q_seq ?_
 refine c_seq rfl ?_
 refine r_ord (l := [0, 1, 2, 3, 4, 5, 6, 7, 8, 9, 10]) rfl (by kernel_rfl) (by kernel_rfl) ?_
 refine s_v rfl rfl rfl rfl (v_mv rfl rfl) ?_
 refine s_v rfl rfl rfl rfl (v_mv rfl rfl) ?_
 refine s_splitv (d := 163) (t := always) rfl (fun h82_ => ?_) (fun h82_ => ?_)
 refine s_vg rfl rfl rfl rfl (v_mv rfl rfl) ?_
 refine s_vg rfl rfl rfl rfl (v_not rfl rfl) ?_
 refine s_v rfl rfl rfl rfl (v_pick rfl rfl rfl rfl) ?_
 refine s_v rfl rfl rfl rfl (v_mv rfl rfl) ?_
 refine s_no rfl rfl rfl rfl ?_
 refine s_no rfl rfl rfl rfl ?_
 refine s_no rfl rfl rfl rfl ?_
 refine s_no rfl rfl rfl rfl ?_
 refine s_v rfl rfl rfl rfl (v_pick rfl rfl rfl rfl) ?_
 refine s_end ?_
 refine q_seq ?_
 refine c_cond0 rfl rfl ?_
 refine c_skip rfl ?_
 refine q_block ?_
 refine q_seq ?_
 refine r_ord (l := [0, 1, 2]) rfl (by kernel_rfl) (by kernel_rfl) ?_
 refine s_v rfl rfl rfl rfl (v_mv rfl rfl) ?_
 refine s_v rfl rfl rfl rfl (OpV.cast (v := .int .i64 ((p + 1 : Nat) : Int)) (v_ar rfl rfl rfl rfl) (addN (a := p) (b := 1) (by omega))) ?_
 refine s_v rfl rfl rfl rfl (v_as rfl rfl) ?_
 refine s_end ?_
 have hbey : beyondB x (rd_T61 ((mapF l x.f2 (ordL l)).map old) (p : Int)).f0 = true := by unfold beyondB; rw [decide_eq_true (show (x.f6.f3.length : Int) ≥ mx 0 x.f1.f3 by rw [hmx]; omega), show ((x.f6.f3.length : Int) == 0) = true by rw [beq_iff_eq]; omega]; rfl
 have hpb : pairBad l x (rd_T61 ((mapF l x.f2 (ordL l)).map old) (p : Int)).f0 = false := by unfold pairBad; rw [h74_f, Bool.true_and, ← Bool.and_assoc, ← halw, h82_, hbey]; rfl
 rw [hpo] at hpb
 exact q_again (p + 1) [0, 1, 2, 3, 4] ⟨by omega, all_nextG hpl hs1.2 (by rw [hpb]; rfl)⟩ (by show (mapF l x.f2 (ordL l)).length - (p + 1) < (mapF l x.f2 (ordL l)).length - p; omega) (subF_spec ⟨rfl, rfl, rfl, rfl, rfl, rfl, rfl, trivial⟩) rfl (by decide)
 refine s_no rfl rfl rfl rfl ?_
 refine s_no rfl rfl rfl rfl ?_
 refine s_v rfl rfl rfl rfl (v_pick rfl rfl rfl rfl) ?_
 refine s_v rfl rfl rfl rfl (v_mv rfl rfl) ?_
 refine s_no rfl rfl rfl rfl ?_
 refine s_no rfl rfl rfl rfl ?_
 refine s_no rfl rfl rfl rfl ?_
 refine s_no rfl rfl rfl rfl ?_
 refine s_v rfl rfl rfl rfl (v_pick rfl rfl rfl rfl) ?_
 refine s_end ?_
 refine q_seq ?_
 refine c_cond0 rfl rfl ?_
 refine c_skip rfl ?_
 refine q_block ?_
 refine q_seq ?_
 refine r_ord (l := [0, 1, 2]) rfl (by kernel_rfl) (by kernel_rfl) ?_
 refine s_v rfl rfl rfl rfl (v_mv rfl rfl) ?_
 refine s_v rfl rfl rfl rfl (OpV.cast (v := .int .i64 ((p + 1 : Nat) : Int)) (v_ar rfl rfl rfl rfl) (addN (a := p) (b := 1) (by omega))) ?_
 refine s_v rfl rfl rfl rfl (v_as rfl rfl) ?_
 refine s_end ?_
 have hpb : pairBad l x (rd_T61 ((mapF l x.f2 (ordL l)).map old) (p : Int)).f0 = false := by unfold pairBad; rw [h74_f, Bool.true_and, ← Bool.and_assoc, ← halw, h82_]; rfl
 rw [hpo] at hpb
 exact q_again (p + 1) [0, 1, 2, 3, 4] ⟨by omega, all_nextG hpl hs1.2 (by rw [hpb]; rfl)⟩ (by show (mapF l x.f2 (ordL l)).length - (p + 1) < (mapF l x.f2 (ordL l)).length - p; omega) (subF_spec ⟨rfl, rfl, rfl, rfl, rfl, rfl, rfl, trivial⟩) rfl (by decide)
 have h81_d : x.f1.f3 ≠ 0 := by simpa using h81_
 refine s_vg rfl rfl rfl rfl (v_mv rfl rfl) ?_
 refine s_vg rfl rfl rfl rfl (v_mv rfl rfl) ?_
 refine s_vg rfl rfl rfl rfl (v_mv rfl rfl) ?_
 refine s_vg rfl rfl rfl rfl (OpV.cast (v := .int .i64 ((x.f6.f3.length - 1 : Nat) : Int)) (v_ar rfl rfl rfl rfl) (by rw [show x.f1.f3 - 1 = ((x.f6.f3.length - 1 : Nat) : Int) by omega]; exact ciN (by omega))) ?_
 refine s_vg rfl rfl rfl rfl (v_iaK (i := 4) rfl Try.underlying44 SZ41 rfl rfl rfl rfl (by omega) (by omega)) ?_
 refine s_vg rfl rfl rfl rfl (v_ldK (v := .int .u64 (rd x.f6.f3 ((x.f6.f3.length - 1 : Nat) : Int))) 0 4 rfl Try.underlying41 rfl rfl rfl rfl (by omega) (by omega) (fun w K h => h)) ?_
 refine s_vg rfl rfl rfl rfl (v_ar rfl rfl rfl rfl) ?_
 refine s_vg rfl rfl rfl rfl (v_pick rfl rfl rfl rfl) ?_
 refine s_v rfl rfl rfl rfl (v_pick rfl rfl rfl rfl) ?_
 refine s_v rfl rfl rfl rfl (v_as rfl rfl) ?_
 refine s_end ?_
 refine q_seq ?_
 refine c_seq rfl ?_
 refine r_ord (l := [0, 1, 2, 3, 4, 5, 6, 7, 8, 9, 10]) rfl (by kernel_rfl) (by kernel_rfl) ?_
 refine s_v rfl rfl rfl rfl (v_mv rfl rfl) ?_
 refine s_v rfl rfl rfl rfl (v_mv rfl rfl) ?_
 refine s_splitv (d := 163) (t := always) rfl (fun h83_ => ?_) (fun h83_ => ?_)
 refine s_vg rfl rfl rfl rfl (v_mv rfl rfl) ?_
 refine s_vg rfl rfl rfl rfl (v_not rfl rfl) ?_
 refine s_v rfl rfl rfl rfl (v_pick rfl rfl rfl rfl) ?_
 refine s_v rfl rfl rfl rfl (v_mv rfl rfl) ?_
 refine s_splitv (d := 167) (t := !(decide (((rd_T61 ((mapF l x.f2 (ordL l)).map old) (p : Int)).f0 : Int) > (rd x.f6.f3 ((x.f6.f3.length - 1 : Nat) : Int))))) rfl (fun h84_ => ?_) (fun h84_ => ?_)
 refine s_vg rfl rfl rfl rfl (v_mv rfl rfl) ?_
 refine s_vg rfl rfl rfl rfl (v_mv rfl rfl) ?_
 refine s_eg rfl rfl (e_callK (fun z : Unit => .bool (x.f6.f3.contains ((rd_T61 ((mapF l x.f2 (ordL l)).map old) (p : Int)).f0))) (fun z => []) #[.slice AE x.f6.f3.length cE, .int .u64 ((rd_T61 ((mapF l x.f2 (ordL l)).map old) (p : Int)).f0)] rfl rfl rfl rfl rfl Try.func62 rfl (by decide) rfl rfl (fun w ht => stepstoneref08_in.con 5000 _ _ x.f6.f3 ((rd_T61 ((mapF l x.f2 (ordL l)).map old) (p : Int)).f0) _ (in_f x.f6.f3 ((rd_T61 ((mapF l x.f2 (ordL l)).map old) (p : Int)).f0) (by omega)) w (Tri.fact ht 4 rfl))) ?_
 intro z85_
 refine s_vg rfl rfl rfl rfl (v_not rfl rfl) ?_
 refine s_v rfl rfl rfl rfl (v_pick rfl rfl rfl rfl) ?_
 refine s_end ?_
 refine q_seq ?_
 refine c_cond (t := !(x.f6.f3.contains ((rd_T61 ((mapF l x.f2 (ordL l)).map old) (p : Int)).f0))) rfl rfl (fun h86_ => ?_) (fun h86_ => ?_)
 refine c_seq rfl ?_
 refine r_ord (l := [0]) rfl (by kernel_rfl) (by kernel_rfl) ?_
 refine s_v rfl rfl rfl rfl (v_as rfl rfl) ?_
 refine s_end ?_
 refine q_seq ?_
 refine c_ret rfl ?_
 refine q_block_ret ?_
 refine q_then_ret ?_
 refine q_then_ret ?_
 refine q_block_ret ?_
 refine q_then_ret ?_
 refine q_take [] rfl (by decide) ?_
 have hgt : decide ((rd_T61 ((mapF l x.f2 (ordL l)).map old) (p : Int)).f0 > rd x.f6.f3 ((x.f6.f3.length : Int) - 1)) = false := by have h_ := h84_; rw [show ((x.f6.f3.length - 1 : Nat) : Int) = (x.f6.f3.length : Int) - 1 by omega] at h_; simpa using h_
 have hbey : beyondB x (rd_T61 ((mapF l x.f2 (ordL l)).map old) (p : Int)).f0 = false := by unfold beyondB; rw [decide_eq_true (show (x.f6.f3.length : Int) ≥ mx 0 x.f1.f3 by rw [hmx]; omega), show ((x.f6.f3.length : Int) == 0) = false by rw [beq_eq_false_iff_ne]; omega, hgt]; rfl
 have hpb : pairBad l x (rd_T61 ((mapF l x.f2 (ordL l)).map old) (p : Int)).f0 = true := by unfold pairBad; rw [h74_f, Bool.true_and, ← Bool.and_assoc, ← halw, h83_, hbey, show x.f6.f3.contains (rd_T61 ((mapF l x.f2 (ordL l)).map old) (p : Int)).f0 = false by simpa using h86_]; rfl
 rw [hpo] at hpb
 rw [okR_bad5 hpl hpb] at hX
 exact q_post rfl (.cons rfl (.nil)) hX
 refine c_skip rfl ?_
 refine q_block ?_
 refine q_seq ?_
 refine r_ord (l := [0, 1, 2]) rfl (by kernel_rfl) (by kernel_rfl) ?_
 refine s_v rfl rfl rfl rfl (v_mv rfl rfl) ?_
 refine s_v rfl rfl rfl rfl (OpV.cast (v := .int .i64 ((p + 1 : Nat) : Int)) (v_ar rfl rfl rfl rfl) (addN (a := p) (b := 1) (by omega))) ?_
 refine s_v rfl rfl rfl rfl (v_as rfl rfl) ?_
 refine s_end ?_
 have hgt : decide ((rd_T61 ((mapF l x.f2 (ordL l)).map old) (p : Int)).f0 > rd x.f6.f3 ((x.f6.f3.length : Int) - 1)) = false := by have h_ := h84_; rw [show ((x.f6.f3.length - 1 : Nat) : Int) = (x.f6.f3.length : Int) - 1 by omega] at h_; simpa using h_
 have hbey : beyondB x (rd_T61 ((mapF l x.f2 (ordL l)).map old) (p : Int)).f0 = false := by unfold beyondB; rw [decide_eq_true (show (x.f6.f3.length : Int) ≥ mx 0 x.f1.f3 by rw [hmx]; omega), show ((x.f6.f3.length : Int) == 0) = false by rw [beq_eq_false_iff_ne]; omega, hgt]; rfl
 have hpb : pairBad l x (rd_T61 ((mapF l x.f2 (ordL l)).map old) (p : Int)).f0 = false := by unfold pairBad; rw [h74_f, Bool.true_and, ← Bool.and_assoc, ← halw, h83_, hbey, show x.f6.f3.contains (rd_T61 ((mapF l x.f2 (ordL l)).map old) (p : Int)).f0 = true by simpa using h86_]; rfl
 rw [hpo] at hpb
 exact q_again (p + 1) [0, 1, 2, 3, 4] ⟨by omega, all_nextG hpl hs1.2 (by rw [hpb]; rfl)⟩ (by show (mapF l x.f2 (ordL l)).length - (p + 1) < (mapF l x.f2 (ordL l)).length - p; omega) (subF_spec ⟨rfl, rfl, rfl, rfl, rfl, rfl, rfl, trivial⟩) rfl (by decide)
 have h84_d : ((rd_T61 ((mapF l x.f2 (ordL l)).map old) ((p : Nat) : Int)).f0 : Int) > (rd x.f6.f3 ((x.f6.f3.length - 1 : Nat) : Int)) := by simpa using h84_
 refine s_no rfl rfl rfl rfl ?_
 refine s_no rfl rfl rfl rfl ?_
 refine s_no rfl rfl rfl rfl ?_
 refine s_no rfl rfl rfl rfl ?_
 refine s_v rfl rfl rfl rfl (v_pick rfl rfl rfl rfl) ?_
 refine s_end ?_
 refine q_seq ?_
 refine c_cond0 rfl rfl ?_
 refine c_skip rfl ?_
 refine q_block ?_
 refine q_seq ?_
 refine r_ord (l := [0, 1, 2]) rfl (by kernel_rfl) (by kernel_rfl) ?_
 refine s_v rfl rfl rfl rfl (v_mv rfl rfl) ?_
 refine s_v rfl rfl rfl rfl (OpV.cast (v := .int .i64 ((p + 1 : Nat) : Int)) (v_ar rfl rfl rfl rfl) (addN (a := p) (b := 1) (by omega))) ?_
 refine s_v rfl rfl rfl rfl (v_as rfl rfl) ?_
 refine s_end ?_
 have hgt : decide ((rd_T61 ((mapF l x.f2 (ordL l)).map old) (p : Int)).f0 > rd x.f6.f3 ((x.f6.f3.length : Int) - 1)) = true := by have h_ := h84_; rw [show ((x.f6.f3.length - 1 : Nat) : Int) = (x.f6.f3.length : Int) - 1 by omega] at h_; simpa using h_
 have hbey : beyondB x (rd_T61 ((mapF l x.f2 (ordL l)).map old) (p : Int)).f0 = true := by unfold beyondB; rw [decide_eq_true (show (x.f6.f3.length : Int) ≥ mx 0 x.f1.f3 by rw [hmx]; omega), show ((x.f6.f3.length : Int) == 0) = false by rw [beq_eq_false_iff_ne]; omega, hgt]; rfl
 have hpb : pairBad l x (rd_T61 ((mapF l x.f2 (ordL l)).map old) (p : Int)).f0 = false := by unfold pairBad; rw [h74_f, Bool.true_and, ← Bool.and_assoc, ← halw, h83_, hbey]; rfl
 rw [hpo] at hpb
 exact q_again (p + 1) [0, 1, 2, 3, 4] ⟨by omega, all_nextG hpl hs1.2 (by rw [hpb]; rfl)⟩ (by show (mapF l x.f2 (ordL l)).length - (p + 1) < (mapF l x.f2 (ordL l)).length - p; omega) (subF_spec ⟨rfl, rfl, rfl, rfl, rfl, rfl, rfl, trivial⟩) rfl (by decide)
 refine s_no rfl rfl rfl rfl ?_
 refine s_no rfl rfl rfl rfl ?_
 refine s_v rfl rfl rfl rfl (v_pick rfl rfl rfl rfl) ?_
 refine s_v rfl rfl rfl rfl (v_mv rfl rfl) ?_
 refine s_no rfl rfl rfl rfl ?_
 refine s_no rfl rfl rfl rfl ?_
 refine s_no rfl rfl rfl rfl ?_
 refine s_no rfl rfl rfl rfl ?_
 refine s_v rfl rfl rfl rfl (v_pick rfl rfl rfl rfl) ?_
 refine s_end ?_
 refine q_seq ?_
 refine c_cond0 rfl rfl ?_
 refine c_skip rfl ?_
 refine q_block ?_
 refine q_seq ?_
 refine r_ord (l := [0, 1, 2]) rfl (by kernel_rfl) (by kernel_rfl) ?_
 refine s_v rfl rfl rfl rfl (v_mv rfl rfl) ?_
 refine s_v rfl rfl rfl rfl (OpV.cast (v := .int .i64 ((p + 1 : Nat) : Int)) (v_ar rfl rfl rfl rfl) (addN (a := p) (b := 1) (by omega))) ?_
 refine s_v rfl rfl rfl rfl (v_as rfl rfl) ?_
 refine s_end ?_
 have hpb : pairBad l x (rd_T61 ((mapF l x.f2 (ordL l)).map old) (p : Int)).f0 = false := by unfold pairBad; rw [h74_f, Bool.true_and, ← Bool.and_assoc, ← halw, h83_]; rfl
 rw [hpo] at hpb
 exact q_again (p + 1) [0, 1, 2, 3, 4] ⟨by omega, all_nextG hpl hs1.2 (by rw [hpb]; rfl)⟩ (by show (mapF l x.f2 (ordL l)).length - (p + 1) < (mapF l x.f2 (ordL l)).length - p; omega) (subF_spec ⟨rfl, rfl, rfl, rfl, rfl, rfl, rfl, trivial⟩) rfl (by decide)
 have h80_d : (x.f6.f3.length : Nat) ≠ x.f1.f3 := by simpa using h80_
 refine s_no rfl rfl rfl rfl ?_
 refine s_no rfl rfl rfl rfl ?_
 refine s_no rfl rfl rfl rfl ?_
 refine s_no rfl rfl rfl rfl ?_
 refine s_no rfl rfl rfl rfl ?_
 refine s_no rfl rfl rfl rfl ?_
 refine s_no rfl rfl rfl rfl ?_
 refine s_no rfl rfl rfl rfl ?_
 refine s_no rfl rfl rfl rfl ?_
 refine s_no rfl rfl rfl rfl ?_
 refine s_no rfl rfl rfl rfl ?_
 refine s_v rfl rfl rfl rfl (v_pick rfl rfl rfl rfl) ?_
 refine s_v rfl rfl rfl rfl (v_as rfl rfl) ?_
 refine s_end ?_
 refine q_seq ?_
 refine c_seq rfl ?_
 refine r_ord (l := [0, 1, 2, 3, 4, 5, 6, 7, 8, 9, 10]) rfl (by kernel_rfl) (by kernel_rfl) ?_
 refine s_v rfl rfl rfl rfl (v_mv rfl rfl) ?_
 refine s_v rfl rfl rfl rfl (v_mv rfl rfl) ?_
 refine s_splitv (d := 163) (t := always) rfl (fun h87_ => ?_) (fun h87_ => ?_)
 refine s_vg rfl rfl rfl rfl (v_mv rfl rfl) ?_
 refine s_vg rfl rfl rfl rfl (v_not rfl rfl) ?_
 refine s_v rfl rfl rfl rfl (v_pick rfl rfl rfl rfl) ?_
 refine s_v rfl rfl rfl rfl (v_mv rfl rfl) ?_
 refine s_vg rfl rfl rfl rfl (v_mv rfl rfl) ?_
 refine s_vg rfl rfl rfl rfl (v_mv rfl rfl) ?_
 refine s_eg rfl rfl (e_callK (fun z : Unit => .bool (x.f6.f3.contains ((rd_T61 ((mapF l x.f2 (ordL l)).map old) (p : Int)).f0))) (fun z => []) #[.slice AE x.f6.f3.length cE, .int .u64 ((rd_T61 ((mapF l x.f2 (ordL l)).map old) (p : Int)).f0)] rfl rfl rfl rfl rfl Try.func62 rfl (by decide) rfl rfl (fun w ht => stepstoneref08_in.con 5000 _ _ x.f6.f3 ((rd_T61 ((mapF l x.f2 (ordL l)).map old) (p : Int)).f0) _ (in_f x.f6.f3 ((rd_T61 ((mapF l x.f2 (ordL l)).map old) (p : Int)).f0) (by omega)) w (Tri.fact ht 4 rfl))) ?_
 intro z88_
 refine s_vg rfl rfl rfl rfl (v_not rfl rfl) ?_
 refine s_v rfl rfl rfl rfl (v_pick rfl rfl rfl rfl) ?_
 refine s_end ?_
 refine q_seq ?_
 refine c_cond (t := !(x.f6.f3.contains ((rd_T61 ((mapF l x.f2 (ordL l)).map old) (p : Int)).f0))) rfl rfl (fun h89_ => ?_) (fun h89_ => ?_)
 refine c_seq rfl ?_
 refine r_ord (l := [0]) rfl (by kernel_rfl) (by kernel_rfl) ?_
 refine s_v rfl rfl rfl rfl (v_as rfl rfl) ?_
 refine s_end ?_
 refine q_seq ?_
 refine c_ret rfl ?_
 refine q_block_ret ?_
 refine q_then_ret ?_
 refine q_then_ret ?_
 refine q_block_ret ?_
 refine q_then_ret ?_
 refine q_take [] rfl (by decide) ?_
 have hbey : beyondB x (rd_T61 ((mapF l x.f2 (ordL l)).map old) (p : Int)).f0 = false := by unfold beyondB; rw [decide_eq_false (show ¬ (x.f6.f3.length : Int) ≥ mx 0 x.f1.f3 by rw [hmx]; omega)]; rfl
 have hpb : pairBad l x (rd_T61 ((mapF l x.f2 (ordL l)).map old) (p : Int)).f0 = true := by unfold pairBad; rw [h74_f, Bool.true_and, ← Bool.and_assoc, ← halw, h87_, hbey, show x.f6.f3.contains (rd_T61 ((mapF l x.f2 (ordL l)).map old) (p : Int)).f0 = false by simpa using h89_]; rfl
 rw [hpo] at hpb
 rw [okR_bad5 hpl hpb] at hX
 exact q_post rfl (.cons rfl (.nil)) hX
 refine c_skip rfl ?_
 refine q_block ?_
 refine q_seq ?_
 refine r_ord (l := [0, 1, 2]) rfl (by kernel_rfl) (by kernel_rfl) ?_
 refine s_v rfl rfl rfl rfl (v_mv rfl rfl) ?_
 refine s_v rfl rfl rfl rfl (OpV.cast (v := .int .i64 ((p + 1 : Nat) : Int)) (v_ar rfl rfl rfl rfl) (addN (a := p) (b := 1) (by omega))) ?_
 refine s_v rfl rfl rfl rfl (v_as rfl rfl) ?_
 refine s_end ?_
 have hbey : beyondB x (rd_T61 ((mapF l x.f2 (ordL l)).map old) (p : Int)).f0 = false := by unfold beyondB; rw [decide_eq_false (show ¬ (x.f6.f3.length : Int) ≥ mx 0 x.f1.f3 by rw [hmx]; omega)]; rfl
 have hpb : pairBad l x (rd_T61 ((mapF l x.f2 (ordL l)).map old) (p : Int)).f0 = false := by unfold pairBad; rw [h74_f, Bool.true_and, ← Bool.and_assoc, ← halw, h87_, hbey, show x.f6.f3.contains (rd_T61 ((mapF l x.f2 (ordL l)).map old) (p : Int)).f0 = true by simpa using h89_]; rfl
 rw [hpo] at hpb
 exact q_again (p + 1) [0, 1, 2, 3, 4] ⟨by omega, all_nextG hpl hs1.2 (by rw [hpb]; rfl)⟩ (by show (mapF l x.f2 (ordL l)).length - (p + 1) < (mapF l x.f2 (ordL l)).length - p; omega) (subF_spec ⟨rfl, rfl, rfl, rfl, rfl, rfl, rfl, trivial⟩) rfl (by decide)
 refine s_no rfl rfl rfl rfl ?_
 refine s_no rfl rfl rfl rfl ?_
 refine s_v rfl rfl rfl rfl (v_pick rfl rfl rfl rfl) ?_
 refine s_v rfl rfl rfl rfl (v_mv rfl rfl) ?_
 refine s_no rfl rfl rfl rfl ?_
 refine s_no rfl rfl rfl rfl ?_
 refine s_no rfl rfl rfl rfl ?_
 refine s_no rfl rfl rfl rfl ?_
 refine s_v rfl rfl rfl rfl (v_pick rfl rfl rfl rfl) ?_
 refine s_end ?_
 refine q_seq ?_
 refine c_cond0 rfl rfl ?_
 refine c_skip rfl ?_
 refine q_block ?_
 refine q_seq ?_
 refine r_ord (l := [0, 1, 2]) rfl (by kernel_rfl) (by kernel_rfl) ?_
 refine s_v rfl rfl rfl rfl (v_mv rfl rfl) ?_
 refine s_v rfl rfl rfl rfl (OpV.cast (v := .int .i64 ((p + 1 : Nat) : Int)) (v_ar rfl rfl rfl rfl) (addN (a := p) (b := 1) (by omega))) ?_
 refine s_v rfl rfl rfl rfl (v_as rfl rfl) ?_
 refine s_end ?_
 have hpb : pairBad l x (rd_T61 ((mapF l x.f2 (ordL l)).map old) (p : Int)).f0 = false := by unfold pairBad; rw [h74_f, Bool.true_and, ← Bool.and_assoc, ← halw, h87_]; rfl
 rw [hpo] at hpb
 exact q_again (p + 1) [0, 1, 2, 3, 4] ⟨by omega, all_nextG hpl hs1.2 (by rw [hpb]; rfl)⟩ (by show (mapF l x.f2 (ordL l)).length - (p + 1) < (mapF l x.f2 (ordL l)).length - p; omega) (subF_spec ⟨rfl, rfl, rfl, rfl, rfl, rfl, rfl, trivial⟩) rfl (by decide)
 have h74_d := of_decide_eq_false h74_
 have h74_f : decide ((rd_T61 ((mapF l x.f2 (ordL l)).map old) (p : Int)).f0 ≥ x.f1.f1) = false := h74_
 refine s_no rfl rfl rfl rfl ?_
 refine s_no rfl rfl rfl rfl ?_
 refine s_no rfl rfl rfl rfl ?_
 refine s_no rfl rfl rfl rfl ?_
 refine s_no rfl rfl rfl rfl ?_
 refine s_v rfl rfl rfl rfl (v_pick rfl rfl rfl rfl) ?_
 refine s_v rfl rfl rfl rfl (v_as rfl rfl) ?_
 refine s_end ?_
 refine q_seq ?_
 refine c_seq rfl ?_
 refine c_seq rfl ?_
 refine r_ord (l := [0]) rfl (by kernel_rfl) (by kernel_rfl) ?_
 refine s_v rfl rfl rfl rfl (v_as rfl rfl) ?_
 refine s_end ?_
 refine q_seq ?_
 refine c_block rfl ?_
 refine c_loop (σ := (Nat × Bool)) (fun s : (Nat × Bool) => match s with | (j, always) => j ≤ (timesL l x l.length).length ∧ always = (false && ((timesL l x l.length).take j).all (fun t => (getM (mapF l t (ordL l)) ((rd_T61 ((mapF l x.f2 (ordL l)).map old) (p : Int)).f0)).2.1))) (fun s : (Nat × Bool) => match s with | (j, always) => (timesL l x l.length).length - j) (fun s : (Nat × Bool) => match s with | (j, always) => [(0, .slice A l.length c), (3, .pointer (some ⟨b1_, 0, none⟩)), (5, .slice AE x.f6.f3.length cE), (6, .int .i64 x.f1.f3), (7, .slice A52_ ((timesL l x l.length).length) c53_), (11, .slice A71_ (((mapF l x.f2 (ordL l)).map old).length) c72_), (12, .int .i64 (p : Int)), (13, .int .u64 ((rd_T61 ((mapF l x.f2 (ordL l)).map old) (p : Int)).f0)), (15, .int .i64 (j : Int)), (14, .bool always)]) (fun s : (Nat × Bool) => match s with | (j, always) => [.f (KC k61 A71_ c72_ ((mapF l x.f2 (ordL l)).map old)), .f (KC (Kd.int .i64) A52_ c53_ (timesL l x l.length)), .b b1_ (.cells #[.int .i64 x.f0, .int .i64 x.f1.f0, .int .u64 x.f1.f1, .int .u64 x.f1.f2, .int .i64 x.f1.f3, .int .i64 x.f1.f4, .int .i64 x.f2, .int .i64 x.f3, .int .i64 x.f4, .bool x.f5, .bool x.f6.f0, .bool x.f6.f1, .int .u64 x.f6.f2, .slice AE x.f6.f3.length cE] 48 (0, 0)), .f (KC k48 A c l), .f (KC (Kd.int .u64) AE cE x.f6.f3)]) (0, false) [0, 1, 2, 3, 4] rfl ⟨Nat.zero_le _, by simp⟩ (subF_spec ⟨rfl, rfl, rfl, rfl, rfl, rfl, rfl, rfl, rfl, rfl, trivial⟩) rfl (by decide) ?_
 rintro ⟨j, always⟩ hs
 have hs : j ≤ (timesL l x l.length).length ∧ always = (false && ((timesL l x l.length).take j).all (fun t => (getM (mapF l t (ordL l)) ((rd_T61 ((mapF l x.f2 (ordL l)).map old) (p : Int)).f0)).2.1)) := hs
 have hj_ := hs.1
 have hs3 := hs.2
 have htl := times_len l x l.length
 refine c_seq rfl ?_
 refine c_seq rfl ?_
 refine r_ord (l := [0, 1, 2, 3]) rfl (by kernel_rfl) (by kernel_rfl) ?_
 refine s_v rfl rfl rfl rfl (v_mv rfl rfl) ?_
 refine s_v rfl rfl rfl rfl (v_mv rfl rfl) ?_
 refine s_v rfl rfl rfl rfl (v_len rfl rfl rfl Try.underlying25 rfl rfl) ?_
 refine s_v rfl rfl rfl rfl (v_ar rfl rfl rfl rfl) ?_
 refine s_end ?_
 refine q_seq ?_
 refine c_cond (t := decide (((j : Int) : Int) < ((timesL l x l.length).length : Nat))) rfl rfl (fun h90_ => ?_) (fun h90_ => ?_)
 have h90_d := of_decide_eq_true h90_
 have hjl : j < (timesL l x l.length).length := by omega
 have hst := all_nextE (p := (fun t => (getM (mapF l t (ordL l)) ((rd_T61 ((mapF l x.f2 (ordL l)).map old) (p : Int)).f0)).2.1)) hjl
 rw [← rdI hjl] at hst
 refine c_skip rfl ?_
 refine q_seq ?_
 refine c_seq rfl ?_
 refine c_block rfl ?_
 refine r_ord (l := [0, 1, 2, 3, 4, 5, 6, 7, 8, 9, 10, 11]) rfl (by kernel_rfl) (by kernel_rfl) ?_
 refine s_v rfl rfl rfl rfl (v_mv rfl rfl) ?_
 refine s_v rfl rfl rfl rfl (v_mv rfl rfl) ?_
 refine s_splitv (d := 135) (t := always) rfl (fun h91_ => ?_) (fun h91_ => ?_)
 refine s_vg rfl rfl rfl rfl (v_mv rfl rfl) ?_
 refine s_vg rfl rfl rfl rfl (v_mv rfl rfl) ?_
 refine s_vg rfl rfl rfl rfl (v_mv rfl rfl) ?_
 refine s_vg rfl rfl rfl rfl (v_iaK (i := 1) rfl Try.underlying25 SZ3 rfl rfl rfl rfl (by omega) (by omega)) ?_
 refine s_vg rfl rfl rfl rfl (v_ldK (v := .int .i64 (rd (timesL l x l.length) (j : Int))) 0 1 rfl Try.underlying3 rfl rfl rfl rfl (by omega) (by omega) (fun w K h => h)) ?_
 refine s_eg rfl rfl (e_callF [3] #[.slice A l.length c, .int .i64 (rd (timesL l x l.length) (j : Int))] rfl rfl rfl rfl rfl Try.func18 rfl (by decide) rfl rfl rfl rfl (fun w ht => rmap_con A c l (rd (timesL l x l.length) (j : Int)) (by omega) w _)) ?_
 intro A92_ c93_
 refine s_vg rfl rfl rfl rfl (v_mv rfl rfl) ?_
 refine s_eg rfl rfl (e_callK (fun z : Unit => .bool ((getM (mapF l (rd (timesL l x l.length) (j : Int)) (ordL l)) ((rd_T61 ((mapF l x.f2 (ordL l)).map old) (p : Int)).f0)).2.1)) (fun z => []) #[.slice A92_ (((mapF l (rd (timesL l x l.length) (j : Int)) (ordL l)).map old).length) c93_, .int .u64 ((rd_T61 ((mapF l x.f2 (ordL l)).map old) (p : Int)).f0)] rfl rfl rfl rfl rfl Try.func61 rfl (by decide) rfl rfl (fun w ht => stepstoneref08_has.con 5000 _ _ _ ((rd_T61 ((mapF l x.f2 (ordL l)).map old) (p : Int)).f0) _ (hasr_f (mapF l (rd (timesL l x l.length) (j : Int)) (ordL l)) ((rd_T61 ((mapF l x.f2 (ordL l)).map old) (p : Int)).f0) (mapF_len (by omega) _)) w (Tri.fact ht 0 rfl))) ?_
 intro z94_
 refine s_v rfl rfl rfl rfl (v_pick rfl rfl rfl rfl) ?_
 refine s_v rfl rfl rfl rfl (v_as rfl rfl) ?_
 refine s_end ?_
 refine q_block ?_
 refine q_seq ?_
 refine r_ord (l := [0, 1, 2]) rfl (by kernel_rfl) (by kernel_rfl) ?_
 refine s_v rfl rfl rfl rfl (v_mv rfl rfl) ?_
 refine s_v rfl rfl rfl rfl (OpV.cast (v := .int .i64 ((j + 1 : Nat) : Int)) (v_ar rfl rfl rfl rfl) (addN (a := j) (b := 1) (by omega))) ?_
 refine s_v rfl rfl rfl rfl (v_as rfl rfl) ?_
 refine s_end ?_
 exact q_again (j + 1, (getM (mapF l (rd (timesL l x l.length) ((j : Nat) : Int)) (ordL l)) ((rd_T61 ((mapF l x.f2 (ordL l)).map old) ((p : Nat) : Int)).f0)).2.1) [1, 2, 3, 4, 5] ⟨by omega, by rw [hst, ← Bool.and_assoc, ← hs3, h91_, Bool.true_and]⟩ (by dsimp only; omega) (subF_spec ⟨rfl, rfl, rfl, rfl, rfl, rfl, rfl, rfl, rfl, rfl, trivial⟩) rfl (by decide)
 refine s_no rfl rfl rfl rfl ?_
 refine s_no rfl rfl rfl rfl ?_
 refine s_no rfl rfl rfl rfl ?_
 refine s_no rfl rfl rfl rfl ?_
 refine s_no rfl rfl rfl rfl ?_
 refine s_no rfl rfl rfl rfl ?_
 refine s_no rfl rfl rfl rfl ?_
 refine s_no rfl rfl rfl rfl ?_
 refine s_v rfl rfl rfl rfl (v_pick rfl rfl rfl rfl) ?_
 refine s_v rfl rfl rfl rfl (v_as rfl rfl) ?_
 refine s_end ?_
 refine q_block ?_
 refine q_seq ?_
 refine r_ord (l := [0, 1, 2]) rfl (by kernel_rfl) (by kernel_rfl) ?_
 refine s_v rfl rfl rfl rfl (v_mv rfl rfl) ?_
 refine s_v rfl rfl rfl rfl (OpV.cast (v := .int .i64 ((j + 1 : Nat) : Int)) (v_ar rfl rfl rfl rfl) (addN (a := j) (b := 1) (by omega))) ?_
 refine s_v rfl rfl rfl rfl (v_as rfl rfl) ?_
 refine s_end ?_
 exact q_again (j + 1, false) [0, 1, 2, 3, 4] ⟨by omega, by rw [hst, ← Bool.and_assoc, ← hs3, h91_, Bool.false_and]⟩ (by dsimp only; omega) (subF_spec ⟨rfl, rfl, rfl, rfl, rfl, rfl, rfl, rfl, rfl, rfl, trivial⟩) rfl (by decide)
 have h90_d := of_decide_eq_false h90_
 have halw : always = (false && alwaysL l x ((rd_T61 ((mapF l x.f2 (ordL l)).map old) (p : Int)).f0)) := by rw [always_times]; have h_ := hs.2; rwa [show j = (timesL l x l.length).length by omega, List.take_length] at h_
 refine c_exit (i := 6) rfl rfl ?_
 refine q_then_exit ?_
 refine q_then_exit ?_
 refine q_block_here rfl ?_
 refine q_seq ?_
 refine c_seq rfl ?_
 refine r_ord (l := [0, 1, 2, 3, 4, 5, 6, 7, 8, 9, 10, 11, 12, 13, 14, 15, 16, 17]) rfl (by kernel_rfl) (by kernel_rfl) ?_
 refine s_v rfl rfl rfl rfl (v_mv rfl rfl) ?_
 refine s_v rfl rfl rfl rfl (v_len rfl rfl rfl Try.underlying44 rfl rfl) ?_
 refine s_v rfl rfl rfl rfl (v_mv rfl rfl) ?_
 refine s_v rfl rfl rfl rfl (v_ar rfl rfl rfl rfl) ?_
 refine s_v rfl rfl rfl rfl (v_mv rfl rfl) ?_
 refine s_splitv (d := 149) (t := ((x.f6.f3.length : Nat) : Int) == x.f1.f3) rfl (fun h95_ => ?_) (fun h95_ => ?_)
 have h95_d : (x.f6.f3.length : Nat) = x.f1.f3 := by simpa using h95_
 refine s_vg rfl rfl rfl rfl (v_mv rfl rfl) ?_
 refine s_vg rfl rfl rfl rfl (v_ar rfl rfl rfl rfl) ?_
 refine s_vg rfl rfl rfl rfl (v_mv rfl rfl) ?_
 refine s_splitv (d := 152) (t := (x.f1.f3 : Int) == 0) rfl (fun h96_ => ?_) (fun h96_ => ?_)
 have h96_d : x.f1.f3 = 0 := by simpa using h96_
 refine s_no rfl rfl rfl rfl ?_
 refine s_no rfl rfl rfl rfl ?_
 refine s_no rfl rfl rfl rfl ?_
 refine s_no rfl rfl rfl rfl ?_
 refine s_no rfl rfl rfl rfl ?_
 refine s_no rfl rfl rfl rfl ?_
 refine s_no rfl rfl rfl rfl ?_
 refine s_vg rfl rfl rfl rfl (v_pick rfl rfl rfl rfl) ?_
 refine s_v rfl rfl rfl rfl (v_pick rfl rfl rfl rfl) ?_
 refine s_v rfl rfl rfl rfl (v_as rfl rfl) ?_
 refine s_end ?_
 refine q_seq ?_
 refine c_seq rfl ?_
 refine r_ord (l := [0, 1, 2, 3, 4, 5, 6, 7, 8, 9, 10]) rfl (by kernel_rfl) (by kernel_rfl) ?_
 refine s_v rfl rfl rfl rfl (v_mv rfl rfl) ?_
 refine s_v rfl rfl rfl rfl (v_mv rfl rfl) ?_
 refine s_splitv (d := 163) (t := always) rfl (fun h97_ => ?_) (fun h97_ => ?_)
 refine s_vg rfl rfl rfl rfl (v_mv rfl rfl) ?_
 refine s_vg rfl rfl rfl rfl (v_not rfl rfl) ?_
 refine s_v rfl rfl rfl rfl (v_pick rfl rfl rfl rfl) ?_
 refine s_v rfl rfl rfl rfl (v_mv rfl rfl) ?_
 refine s_no rfl rfl rfl rfl ?_
 refine s_no rfl rfl rfl rfl ?_
 refine s_no rfl rfl rfl rfl ?_
 refine s_no rfl rfl rfl rfl ?_
 refine s_v rfl rfl rfl rfl (v_pick rfl rfl rfl rfl) ?_
 refine s_end ?_
 refine q_seq ?_
 refine c_cond0 rfl rfl ?_
 refine c_skip rfl ?_
 refine q_block ?_
 refine q_seq ?_
 refine r_ord (l := [0, 1, 2]) rfl (by kernel_rfl) (by kernel_rfl) ?_
 refine s_v rfl rfl rfl rfl (v_mv rfl rfl) ?_
 refine s_v rfl rfl rfl rfl (OpV.cast (v := .int .i64 ((p + 1 : Nat) : Int)) (v_ar rfl rfl rfl rfl) (addN (a := p) (b := 1) (by omega))) ?_
 refine s_v rfl rfl rfl rfl (v_as rfl rfl) ?_
 refine s_end ?_
 have hpb : pairBad l x (rd_T61 ((mapF l x.f2 (ordL l)).map old) (p : Int)).f0 = false := by unfold pairBad; rw [h74_f]; rfl
 rw [hpo] at hpb
 exact q_again (p + 1) [0, 1, 2, 3, 4] ⟨by omega, all_nextG hpl hs1.2 (by rw [hpb]; rfl)⟩ (by show (mapF l x.f2 (ordL l)).length - (p + 1) < (mapF l x.f2 (ordL l)).length - p; omega) (subF_spec ⟨rfl, rfl, rfl, rfl, rfl, rfl, rfl, trivial⟩) rfl (by decide)
 refine s_no rfl rfl rfl rfl ?_
 refine s_no rfl rfl rfl rfl ?_
 refine s_v rfl rfl rfl rfl (v_pick rfl rfl rfl rfl) ?_
 refine s_v rfl rfl rfl rfl (v_mv rfl rfl) ?_
 refine s_no rfl rfl rfl rfl ?_
 refine s_no rfl rfl rfl rfl ?_
 refine s_no rfl rfl rfl rfl ?_
 refine s_no rfl rfl rfl rfl ?_
 refine s_v rfl rfl rfl rfl (v_pick rfl rfl rfl rfl) ?_
 refine s_end ?_
 refine q_seq ?_
 refine c_cond0 rfl rfl ?_
 refine c_skip rfl ?_
 refine q_block ?_
 refine q_seq ?_
 refine r_ord (l := [0, 1, 2]) rfl (by kernel_rfl) (by kernel_rfl) ?_
 refine s_v rfl rfl rfl rfl (v_mv rfl rfl) ?_
 refine s_v rfl rfl rfl rfl (OpV.cast (v := .int .i64 ((p + 1 : Nat) : Int)) (v_ar rfl rfl rfl rfl) (addN (a := p) (b := 1) (by omega))) ?_
 refine s_v rfl rfl rfl rfl (v_as rfl rfl) ?_
 refine s_end ?_
 have hpb : pairBad l x (rd_T61 ((mapF l x.f2 (ordL l)).map old) (p : Int)).f0 = false := by unfold pairBad; rw [h74_f]; rfl
 rw [hpo] at hpb
 exact q_again (p + 1) [0, 1, 2, 3, 4] ⟨by omega, all_nextG hpl hs1.2 (by rw [hpb]; rfl)⟩ (by show (mapF l x.f2 (ordL l)).length - (p + 1) < (mapF l x.f2 (ordL l)).length - p; omega) (subF_spec ⟨rfl, rfl, rfl, rfl, rfl, rfl, rfl, trivial⟩) rfl (by decide)
 have h96_d : x.f1.f3 ≠ 0 := by simpa using h96_
 refine s_vg rfl rfl rfl rfl (v_mv rfl rfl) ?_
 refine s_vg rfl rfl rfl rfl (v_mv rfl rfl) ?_
 refine s_vg rfl rfl rfl rfl (v_mv rfl rfl) ?_
 refine s_vg rfl rfl rfl rfl (OpV.cast (v := .int .i64 ((x.f6.f3.length - 1 : Nat) : Int)) (v_ar rfl rfl rfl rfl) (by rw [show x.f1.f3 - 1 = ((x.f6.f3.length - 1 : Nat) : Int) by omega]; exact ciN (by omega))) ?_
 refine s_vg rfl rfl rfl rfl (v_iaK (i := 4) rfl Try.underlying44 SZ41 rfl rfl rfl rfl (by omega) (by omega)) ?_
 refine s_vg rfl rfl rfl rfl (v_ldK (v := .int .u64 (rd x.f6.f3 ((x.f6.f3.length - 1 : Nat) : Int))) 0 4 rfl Try.underlying41 rfl rfl rfl rfl (by omega) (by omega) (fun w K h => h)) ?_
 refine s_vg rfl rfl rfl rfl (v_ar rfl rfl rfl rfl) ?_
 refine s_vg rfl rfl rfl rfl (v_pick rfl rfl rfl rfl) ?_
 refine s_v rfl rfl rfl rfl (v_pick rfl rfl rfl rfl) ?_
 refine s_v rfl rfl rfl rfl (v_as rfl rfl) ?_
 refine s_end ?_
 refine q_seq ?_
 refine c_seq rfl ?_
 refine r_ord (l := [0, 1, 2, 3, 4, 5, 6, 7, 8, 9, 10]) rfl (by kernel_rfl) (by kernel_rfl) ?_
 refine s_v rfl rfl rfl rfl (v_mv rfl rfl) ?_
 refine s_v rfl rfl rfl rfl (v_mv rfl rfl) ?_
 refine s_splitv (d := 163) (t := always) rfl (fun h98_ => ?_) (fun h98_ => ?_)
 refine s_vg rfl rfl rfl rfl (v_mv rfl rfl) ?_
 refine s_vg rfl rfl rfl rfl (v_not rfl rfl) ?_
 refine s_v rfl rfl rfl rfl (v_pick rfl rfl rfl rfl) ?_
 refine s_v rfl rfl rfl rfl (v_mv rfl rfl) ?_
 refine s_splitv (d := 167) (t := !(decide (((rd_T61 ((mapF l x.f2 (ordL l)).map old) (p : Int)).f0 : Int) > (rd x.f6.f3 ((x.f6.f3.length - 1 : Nat) : Int))))) rfl (fun h99_ => ?_) (fun h99_ => ?_)
 refine s_vg rfl rfl rfl rfl (v_mv rfl rfl) ?_
 refine s_vg rfl rfl rfl rfl (v_mv rfl rfl) ?_
 refine s_eg rfl rfl (e_callK (fun z : Unit => .bool (x.f6.f3.contains ((rd_T61 ((mapF l x.f2 (ordL l)).map old) (p : Int)).f0))) (fun z => []) #[.slice AE x.f6.f3.length cE, .int .u64 ((rd_T61 ((mapF l x.f2 (ordL l)).map old) (p : Int)).f0)] rfl rfl rfl rfl rfl Try.func62 rfl (by decide) rfl rfl (fun w ht => stepstoneref08_in.con 5000 _ _ x.f6.f3 ((rd_T61 ((mapF l x.f2 (ordL l)).map old) (p : Int)).f0) _ (in_f x.f6.f3 ((rd_T61 ((mapF l x.f2 (ordL l)).map old) (p : Int)).f0) (by omega)) w (Tri.fact ht 4 rfl))) ?_
 intro z100_
 refine s_vg rfl rfl rfl rfl (v_not rfl rfl) ?_
 refine s_v rfl rfl rfl rfl (v_pick rfl rfl rfl rfl) ?_
 refine s_end ?_
 refine q_seq ?_
 refine c_cond (t := !(x.f6.f3.contains ((rd_T61 ((mapF l x.f2 (ordL l)).map old) (p : Int)).f0))) rfl rfl (fun h101_ => ?_) (fun h101_ => ?_)
 refine c_seq rfl ?_
 refine r_ord (l := [0]) rfl (by kernel_rfl) (by kernel_rfl) ?_
 refine s_v rfl rfl rfl rfl (v_as rfl rfl) ?_
 refine s_end ?_
 refine q_seq ?_
 refine c_ret rfl ?_
 refine q_block_ret ?_
 refine q_then_ret ?_
 refine q_then_ret ?_
 refine q_block_ret ?_
 refine q_then_ret ?_
 refine q_take [] rfl (by decide) ?_
 exact absurd (halw.symm.trans h98_) (by simp)
 refine c_skip rfl ?_
 refine q_block ?_
 refine q_seq ?_
 refine r_ord (l := [0, 1, 2]) rfl (by kernel_rfl) (by kernel_rfl) ?_
 refine s_v rfl rfl rfl rfl (v_mv rfl rfl) ?_
 refine s_v rfl rfl rfl rfl (OpV.cast (v := .int .i64 ((p + 1 : Nat) : Int)) (v_ar rfl rfl rfl rfl) (addN (a := p) (b := 1) (by omega))) ?_
 refine s_v rfl rfl rfl rfl (v_as rfl rfl) ?_
 refine s_end ?_
 have hpb : pairBad l x (rd_T61 ((mapF l x.f2 (ordL l)).map old) (p : Int)).f0 = false := by unfold pairBad; rw [h74_f]; rfl
 rw [hpo] at hpb
 exact q_again (p + 1) [0, 1, 2, 3, 4] ⟨by omega, all_nextG hpl hs1.2 (by rw [hpb]; rfl)⟩ (by show (mapF l x.f2 (ordL l)).length - (p + 1) < (mapF l x.f2 (ordL l)).length - p; omega) (subF_spec ⟨rfl, rfl, rfl, rfl, rfl, rfl, rfl, trivial⟩) rfl (by decide)
 have h99_d : ((rd_T61 ((mapF l x.f2 (ordL l)).map old) ((p : Nat) : Int)).f0 : Int) > (rd x.f6.f3 ((x.f6.f3.length - 1 : Nat) : Int)) := by simpa using h99_
 refine s_no rfl rfl rfl rfl ?_
 refine s_no rfl rfl rfl rfl ?_
 refine s_no rfl rfl rfl rfl ?_
 refine s_no rfl rfl rfl rfl ?_
 refine s_v rfl rfl rfl rfl (v_pick rfl rfl rfl rfl) ?_
 refine s_end ?_
 refine q_seq ?_
 refine c_cond0 rfl rfl ?_
 refine c_skip rfl ?_
 refine q_block ?_
 refine q_seq ?_
 refine r_ord (l := [0, 1, 2]) rfl (by kernel_rfl) (by kernel_rfl) ?_
 refine s_v rfl rfl rfl rfl (v_mv rfl rfl) ?_
 refine s_v rfl rfl rfl rfl (OpV.cast (v := .int .i64 ((p + 1 : Nat) : Int)) (v_ar rfl rfl rfl rfl) (addN (a := p) (b := 1) (by omega))) ?_
 refine s_v rfl rfl rfl rfl (v_as rfl rfl) ?_
 refine s_end ?_
 have hpb : pairBad l x (rd_T61 ((mapF l x.f2 (ordL l)).map old) (p : Int)).f0 = false := by unfold pairBad; rw [h74_f]; rfl
 rw [hpo] at hpb
 exact q_again (p + 1) [0, 1, 2, 3, 4] ⟨by omega, all_nextG hpl hs1.2 (by rw [hpb]; rfl)⟩ (by show (mapF l x.f2 (ordL l)).length - (p + 1) < (mapF l x.f2 (ordL l)).length - p; omega) (subF_spec ⟨rfl, rfl, rfl, rfl, rfl, rfl, rfl, trivial⟩) rfl (by decide)
 refine s_no rfl rfl rfl rfl ?_
 refine s_no rfl rfl rfl rfl ?_
 refine s_v rfl rfl rfl rfl (v_pick rfl rfl rfl rfl) ?_
 refine s_v rfl rfl rfl rfl (v_mv rfl rfl) ?_
 refine s_no rfl rfl rfl rfl ?_
 refine s_no rfl rfl rfl rfl ?_
 refine s_no rfl rfl rfl rfl ?_
 refine s_no rfl rfl rfl rfl ?_
 refine s_v rfl rfl rfl rfl (v_pick rfl rfl rfl rfl) ?_
 refine s_end ?_
 refine q_seq ?_
 refine c_cond0 rfl rfl ?_
 refine c_skip rfl ?_
 refine q_block ?_
 refine q_seq ?_
 refine r_ord (l := [0, 1, 2]) rfl (by kernel_rfl) (by kernel_rfl) ?_
 refine s_v rfl rfl rfl rfl (v_mv rfl rfl) ?_
 refine s_v rfl rfl rfl rfl (OpV.cast (v := .int .i64 ((p + 1 : Nat) : Int)) (v_ar rfl rfl rfl rfl) (addN (a := p) (b := 1) (by omega))) ?_
 refine s_v rfl rfl rfl rfl (v_as rfl rfl) ?_
 refine s_end ?_
 have hpb : pairBad l x (rd_T61 ((mapF l x.f2 (ordL l)).map old) (p : Int)).f0 = false := by unfold pairBad; rw [h74_f]; rfl
 rw [hpo] at hpb
 exact q_again (p + 1) [0, 1, 2, 3, 4] ⟨by omega, all_nextG hpl hs1.2 (by rw [hpb]; rfl)⟩ (by show (mapF l x.f2 (ordL l)).length - (p + 1) < (mapF l x.f2 (ordL l)).length - p; omega) (subF_spec ⟨rfl, rfl, rfl, rfl, rfl, rfl, rfl, trivial⟩) rfl (by decide)
 have h95_d : (x.f6.f3.length : Nat) ≠ x.f1.f3 := by simpa using h95_
 refine s_no rfl rfl rfl rfl ?_
 refine s_no rfl rfl rfl rfl ?_
 refine s_no rfl rfl rfl rfl ?_
 refine s_no rfl rfl rfl rfl ?_
 refine s_no rfl rfl rfl rfl ?_
 refine s_no rfl rfl rfl rfl ?_
 refine s_no rfl rfl rfl rfl ?_
 refine s_no rfl rfl rfl rfl ?_
 refine s_no rfl rfl rfl rfl ?_
 refine s_no rfl rfl rfl rfl ?_
 refine s_no rfl rfl rfl rfl ?_
 refine s_v rfl rfl rfl rfl (v_pick rfl rfl rfl rfl) ?_
 refine s_v rfl rfl rfl rfl (v_as rfl rfl) ?_
 refine s_end ?_
 refine q_seq ?_
 refine c_seq rfl ?_
 refine r_ord (l := [0, 1, 2, 3, 4, 5, 6, 7, 8, 9, 10]) rfl (by kernel_rfl) (by kernel_rfl) ?_
 refine s_v rfl rfl rfl rfl (v_mv rfl rfl) ?_
 refine s_v rfl rfl rfl rfl (v_mv rfl rfl) ?_
 refine s_splitv (d := 163) (t := always) rfl (fun h102_ => ?_) (fun h102_ => ?_)
 refine s_vg rfl rfl rfl rfl (v_mv rfl rfl) ?_
 refine s_vg rfl rfl rfl rfl (v_not rfl rfl) ?_
 refine s_v rfl rfl rfl rfl (v_pick rfl rfl rfl rfl) ?_
 refine s_v rfl rfl rfl rfl (v_mv rfl rfl) ?_
 refine s_vg rfl rfl rfl rfl (v_mv rfl rfl) ?_
 refine s_vg rfl rfl rfl rfl (v_mv rfl rfl) ?_
 refine s_eg rfl rfl (e_callK (fun z : Unit => .bool (x.f6.f3.contains ((rd_T61 ((mapF l x.f2 (ordL l)).map old) (p : Int)).f0))) (fun z => []) #[.slice AE x.f6.f3.length cE, .int .u64 ((rd_T61 ((mapF l x.f2 (ordL l)).map old) (p : Int)).f0)] rfl rfl rfl rfl rfl Try.func62 rfl (by decide) rfl rfl (fun w ht => stepstoneref08_in.con 5000 _ _ x.f6.f3 ((rd_T61 ((mapF l x.f2 (ordL l)).map old) (p : Int)).f0) _ (in_f x.f6.f3 ((rd_T61 ((mapF l x.f2 (ordL l)).map old) (p : Int)).f0) (by omega)) w (Tri.fact ht 4 rfl))) ?_
 intro z103_
 refine s_vg rfl rfl rfl rfl (v_not rfl rfl) ?_
 refine s_v rfl rfl rfl rfl (v_pick rfl rfl rfl rfl) ?_
 refine s_end ?_
 refine q_seq ?_
 refine c_cond (t := !(x.f6.f3.contains ((rd_T61 ((mapF l x.f2 (ordL l)).map old) (p : Int)).f0))) rfl rfl (fun h104_ => ?_) (fun h104_ => ?_)
 refine c_seq rfl ?_
 refine r_ord (l := [0]) rfl (by kernel_rfl) (by kernel_rfl) ?_
 refine s_v rfl rfl rfl rfl (v_as rfl rfl) ?_
 refine s_end ?_
 refine q_seq ?_
 refine c_ret rfl ?_
 refine q_block_ret ?_
 refine q_then_ret ?_
 refine q_then_ret ?_
 refine q_block_ret ?_
 refine q_then_ret ?_
 refine q_take [] rfl (by decide) ?_
 exact absurd (halw.symm.trans h102_) (by simp)
 refine c_skip rfl ?_
 refine q_block ?_
 refine q_seq ?_
 refine r_ord (l := [0, 1, 2]) rfl (by kernel_rfl) (by kernel_rfl) ?_
 refine s_v rfl rfl rfl rfl (v_mv rfl rfl) ?_
 refine s_v rfl rfl rfl rfl (OpV.cast (v := .int .i64 ((p + 1 : Nat) : Int)) (v_ar rfl rfl rfl rfl) (addN (a := p) (b := 1) (by omega))) ?_
 refine s_v rfl rfl rfl rfl (v_as rfl rfl) ?_
 refine s_end ?_
 have hpb : pairBad l x (rd_T61 ((mapF l x.f2 (ordL l)).map old) (p : Int)).f0 = false := by unfold pairBad; rw [h74_f]; rfl
 rw [hpo] at hpb
 exact q_again (p + 1) [0, 1, 2, 3, 4] ⟨by omega, all_nextG hpl hs1.2 (by rw [hpb]; rfl)⟩ (by show (mapF l x.f2 (ordL l)).length - (p + 1) < (mapF l x.f2 (ordL l)).length - p; omega) (subF_spec ⟨rfl, rfl, rfl, rfl, rfl, rfl, rfl, trivial⟩) rfl (by decide)
 refine s_no rfl rfl rfl rfl ?_
 refine s_no rfl rfl rfl rfl ?_
 refine s_v rfl rfl rfl rfl (v_pick rfl rfl rfl rfl) ?_
 refine s_v rfl rfl rfl rfl (v_mv rfl rfl) ?_
 refine s_no rfl rfl rfl rfl ?_
 refine s_no rfl rfl rfl rfl ?_
 refine s_no rfl rfl rfl rfl ?_
 refine s_no rfl rfl rfl rfl ?_
 refine s_v rfl rfl rfl rfl (v_pick rfl rfl rfl rfl) ?_
 refine s_end ?_
 refine q_seq ?_
 refine c_cond0 rfl rfl ?_
 refine c_skip rfl ?_
 refine q_block ?_
 refine q_seq ?_
 refine r_ord (l := [0, 1, 2]) rfl (by kernel_rfl) (by kernel_rfl) ?_
 refine s_v rfl rfl rfl rfl (v_mv rfl rfl) ?_
 refine s_v rfl rfl rfl rfl (OpV.cast (v := .int .i64 ((p + 1 : Nat) : Int)) (v_ar rfl rfl rfl rfl) (addN (a := p) (b := 1) (by omega))) ?_
 refine s_v rfl rfl rfl rfl (v_as rfl rfl) ?_
 refine s_end ?_
 have hpb : pairBad l x (rd_T61 ((mapF l x.f2 (ordL l)).map old) (p : Int)).f0 = false := by unfold pairBad; rw [h74_f]; rfl
 rw [hpo] at hpb
 exact q_again (p + 1) [0, 1, 2, 3, 4] ⟨by omega, all_nextG hpl hs1.2 (by rw [hpb]; rfl)⟩ (by show (mapF l x.f2 (ordL l)).length - (p + 1) < (mapF l x.f2 (ordL l)).length - p; omega) (subF_spec ⟨rfl, rfl, rfl, rfl, rfl, rfl, rfl, trivial⟩) rfl (by decide)
 have h73_d := of_decide_eq_false h73_
 have hpl9 : (mapF l x.f2 (ordL l)).length ≤ p := by have h_ : ¬ (p : Int) < (((mapF l x.f2 (ordL l)).map old).length : Int) := h73_d; rw [List.length_map] at h_; omega
 have hend : okR l x = true := by unfold okR risingB; rw [hkeys, honce, all_endG hpl9 hs.2, hbeg, hlen]; rfl
 refine c_exit (i := 4) rfl rfl ?_
 refine q_then_exit ?_
 refine q_then_exit ?_
 refine q_block_here rfl ?_
 refine q_seq ?_
 refine c_seq rfl ?_
 refine r_ord (l := [0]) rfl (by kernel_rfl) (by kernel_rfl) ?_
 refine s_v rfl rfl rfl rfl (v_as rfl rfl) ?_
 refine s_end ?_
 refine q_seq ?_
 refine c_ret rfl ?_
 refine q_take [] rfl (by decide) ?_
 rw [hend] at hX
 exact q_post rfl (.cons rfl (.nil)) hX
end Go.Eng
namespace Go.Eng
open Go.Proofs Go.RowKit Go.Proofs.YtiihjijmmephlaaW.PrintWords Go.Proofs.Ytiihjijmmephlaa.GHist
set_option linter.unusedVariables false
set_option linter.unusedSimpArgs false
theorem k48_atq {w : World} {x : S48} {K : List Value} {q : Nat} {v : Value} (h : k48.K w x K) (hq : ((cellsE x none 0).take 13)[q]? = some v) : K[q]? = some v := by
  obtain ⟨A, c, rfl⟩ := k48_sh h
  have e : cellsE x A c = (cellsE x none 0).take 13 ++ [.slice A x.f6.f3.length c] := rfl
  rw [e, List.getElem?_append_left (List.getElem?_eq_some_iff.1 hq).1]
  exact hq
set_option maxRecDepth 100000 in
set_option maxHeartbeats 4000000 in
theorem rranges_con (A : Option Addr) (c : Nat) (l : List S48) (hl : l.length ≤ 40) (hK : ∀ x ∈ l, x.f6.f3.length ≤ 40) (w0 : World) (H : List Nat) : Con Try.prog 22 #[.slice A l.length c] w0 H [.f (KC k48 A c l)] (fun X => X (.bool (rangesM l)) []) := by
 refine con_enter (c := bodyOf Try.f22) Try.func22 rfl (m := 33) rfl rfl rfl ?_
 intro X hX _
 refine c_seq rfl ?_
 refine r_ord (l := [0]) rfl (by kernel_rfl) (by kernel_rfl) ?_
 refine s_v rfl rfl rfl rfl (v_as rfl rfl) ?_
 refine s_end ?_
 refine q_seq ?_
 refine c_seq rfl ?_
 refine c_seq rfl ?_
 refine r_ord (l := [0]) rfl (by kernel_rfl) (by kernel_rfl) ?_
 refine s_v rfl rfl rfl rfl (v_as rfl rfl) ?_
 refine s_end ?_
 refine q_seq ?_
 refine c_block rfl ?_
 refine c_loop (σ := Nat) (fun i => i ≤ l.length ∧ (l.take i).all (okB l) = true) (fun i => l.length - i) (fun i => [(0, .slice A l.length c), (3, .int .i64 (i : Int))]) (fun i => [.f (KC k48 A c l)]) 0 [0] rfl ⟨Nat.zero_le _, rfl⟩ (subF_spec ⟨rfl, rfl, trivial⟩) rfl (by decide) ?_
 rintro i hs
 have hi_ : i ≤ l.length := hs.1
 refine c_seq rfl ?_
 refine c_seq rfl ?_
 refine r_ord (l := [0, 1, 2, 3]) rfl (by kernel_rfl) (by kernel_rfl) ?_
 refine s_v rfl rfl rfl rfl (v_mv rfl rfl) ?_
 refine s_v rfl rfl rfl rfl (v_mv rfl rfl) ?_
 refine s_v rfl rfl rfl rfl (v_len rfl rfl rfl Try.underlying22 rfl rfl) ?_
 refine s_v rfl rfl rfl rfl (v_ar rfl rfl rfl rfl) ?_
 refine s_end ?_
 refine q_seq ?_
 refine c_cond (t := decide (((i : Int) : Int) < (l.length : Nat))) rfl rfl (fun h1_ => ?_) (fun h1_ => ?_)
 have h1_d := of_decide_eq_true h1_
 have hil : i < l.length := by omega
 refine c_skip rfl ?_
 refine q_seq ?_
 refine c_seq rfl ?_
 refine c_block rfl ?_
 refine c_seq rfl ?_
 refine r_ord (l := [0, 1, 2, 3, 4, 5, 6, 7, 8, 9, 10, 11, 12, 13, 14, 15, 16, 17, 18, 19, 20, 21, 22]) rfl (by kernel_rfl) (by kernel_rfl) ?_
 refine s_v rfl rfl rfl rfl (v_mv rfl rfl) ?_
 refine s_v rfl rfl rfl rfl (v_mv rfl rfl) ?_
 refine s_v rfl rfl rfl rfl (v_iaK (i := 0) rfl Try.underlying22 SZ48 rfl rfl rfl rfl (by omega) (by omega)) ?_
 refine s_v rfl rfl rfl rfl (v_fax rfl Try.underlying48 rfl SZ43 rfl) ?_
 refine s_v rfl rfl rfl rfl (OpV.cast (v := .pointer (some ((at0 A (i : Int) 14).add 1))) (v_fax rfl Try.underlying43 rfl SZ3 rfl) (congrArg (fun a => Value.pointer (some a)) (Go.Deep.add_add _ _ _))) ?_
 refine s_v rfl rfl rfl rfl (v_ldKq (v := .int .i64 ((rd_T48 l (i : Int)).f1.f0)) z48 0 rfl Try.underlying3 rfl rfl rfl rfl (by omega) (by omega) (fun w K h => k48_atq h rfl)) ?_
 refine s_v rfl rfl rfl rfl (v_ar rfl rfl rfl rfl) ?_
 refine s_v rfl rfl rfl rfl (v_mv rfl rfl) ?_
 refine s_splitv (d := 17) (t := ((rd_T48 l (i : Int)).f1.f0 : Int) == 5) rfl (fun h2_ => ?_) (fun h2_ => ?_)
 have h2_f : ((rd_T48 l (i : Int)).f1.f0 == 5) = true := h2_
 have h2_d : (rd_T48 l ((i : Nat) : Int)).f1.f0 = 5 := by simpa using h2_
 refine s_vg rfl rfl rfl rfl (v_mv rfl rfl) ?_
 refine s_vg rfl rfl rfl rfl (v_mv rfl rfl) ?_
 refine s_vg rfl rfl rfl rfl (v_iaK (i := 0) rfl Try.underlying22 SZ48 rfl rfl rfl rfl (by omega) (by omega)) ?_
 refine s_vg rfl rfl rfl rfl (v_fax rfl Try.underlying48 rfl SZ4 rfl) ?_
 refine s_vg rfl rfl rfl rfl (v_ldKq (v := .bool ((rd_T48 l (i : Int)).f5)) z48 0 rfl Try.underlying4 rfl rfl rfl rfl (by omega) (by omega) (fun w K h => k48_atq h rfl)) ?_
 refine s_v rfl rfl rfl rfl (v_pick rfl rfl rfl rfl) ?_
 refine s_v rfl rfl rfl rfl (v_mv rfl rfl) ?_
 refine s_splitv (d := 24) (t := (rd_T48 l (i : Int)).f5) rfl (fun h3_ => ?_) (fun h3_ => ?_)
 refine s_vg rfl rfl rfl rfl (v_mv rfl rfl) ?_
 refine s_vg rfl rfl rfl rfl (v_mv rfl rfl) ?_
 refine s_vg rfl rfl rfl rfl (v_mv rfl rfl) ?_
 refine s_vg rfl rfl rfl rfl (v_iaK (i := 0) rfl Try.underlying22 SZ48 rfl rfl rfl rfl (by omega) (by omega)) ?_
 refine s_eg rfl rfl (e_ldKX z48 0 rfl rfl rfl Try.underlying48 rfl SZ48 rfl rfl rfl (by omega) (by omega)) ?_
 intro cs4_ h5_
 refine s_know 0 rfl (fun w h => k48_sh h) (fun h6_ => ?_)
 obtain ⟨A7_, c8_, rfl⟩ := h6_
 refine s_weak 0 rfl (fun w h => k48_row h) ?_
 refine s_eg rfl rfl (e_callF [2, 0] #[.slice A l.length c, .agg #[.int .i64 ((rd_T48 l (i : Int)).f0), .int .i64 ((rd_T48 l (i : Int)).f1.f0), .int .u64 ((rd_T48 l (i : Int)).f1.f1), .int .u64 ((rd_T48 l (i : Int)).f1.f2), .int .i64 ((rd_T48 l (i : Int)).f1.f3), .int .i64 ((rd_T48 l (i : Int)).f1.f4), .int .i64 ((rd_T48 l (i : Int)).f2), .int .i64 ((rd_T48 l (i : Int)).f3), .int .i64 ((rd_T48 l (i : Int)).f4), .bool ((rd_T48 l (i : Int)).f5), .bool ((rd_T48 l (i : Int)).f6.f0), .bool ((rd_T48 l (i : Int)).f6.f1), .int .u64 ((rd_T48 l (i : Int)).f6.f2), .slice A7_ ((rd_T48 l (i : Int)).f6.f3.length) c8_]] rfl rfl rfl rfl rfl Try.func46 rfl (by decide) rfl rfl rfl rfl (fun w ht => right_con A c l (rd_T48 l (i : Int)) A7_ c8_ hl (hK _ (el_mem hil)) w _)) ?_
 refine s_vg rfl rfl rfl rfl (v_not rfl rfl) ?_
 refine s_v rfl rfl rfl rfl (v_pick rfl rfl rfl rfl) ?_
 refine s_end ?_
 refine q_seq ?_
 refine c_cond (t := !(okR l (rd_T48 l (i : Int)))) rfl rfl (fun h9_ => ?_) (fun h9_ => ?_)
 have h9_f : okR l (rd_T48 l (i : Int)) = false := by simpa using h9_
 refine c_seq rfl ?_
 refine r_ord (l := [0]) rfl (by kernel_rfl) (by kernel_rfl) ?_
 refine s_v rfl rfl rfl rfl (v_as rfl rfl) ?_
 refine s_end ?_
 refine q_seq ?_
 refine c_ret rfl ?_
 refine q_block_ret ?_
 refine q_then_ret ?_
 refine q_then_ret ?_
 refine q_block_ret ?_
 refine q_then_ret ?_
 refine q_take [] rfl (by decide) ?_
 have hb_ : okB l (rd_T48 l (i : Int)) = false := by unfold okB; rw [h2_f, h3_, h9_f]; rfl
 rw [rd48 hil] at hb_
 rw [show rangesM l = false from all_badG hil hb_] at hX
 exact q_post rfl (.cons rfl (.nil)) hX
 have h9_f : okR l (rd_T48 l (i : Int)) = true := by simpa using h9_
 refine c_skip rfl ?_
 refine q_block ?_
 refine q_seq ?_
 refine r_ord (l := [0, 1, 2]) rfl (by kernel_rfl) (by kernel_rfl) ?_
 refine s_v rfl rfl rfl rfl (v_mv rfl rfl) ?_
 refine s_v rfl rfl rfl rfl (OpV.cast (v := .int .i64 ((i + 1 : Nat) : Int)) (v_ar rfl rfl rfl rfl) (addN (a := i) (b := 1) (by omega))) ?_
 refine s_v rfl rfl rfl rfl (v_as rfl rfl) ?_
 refine s_end ?_
 have hok : okB l (rd_T48 l (i : Int)) = true := by unfold okB; rw [h2_f, h3_, h9_f]; rfl
 rw [rd48 hil] at hok
 exact q_again (i + 1) [2] ⟨by omega, all_nextG hil hs.2 hok⟩ (by show l.length - (i + 1) < l.length - i; omega) (subF_spec ⟨rfl, rfl, trivial⟩) rfl (by decide)
 refine s_no rfl rfl rfl rfl ?_
 refine s_no rfl rfl rfl rfl ?_
 refine s_no rfl rfl rfl rfl ?_
 refine s_no rfl rfl rfl rfl ?_
 refine s_no rfl rfl rfl rfl ?_
 refine s_no rfl rfl rfl rfl ?_
 refine s_no rfl rfl rfl rfl ?_
 refine s_v rfl rfl rfl rfl (v_pick rfl rfl rfl rfl) ?_
 refine s_end ?_
 refine q_seq ?_
 refine c_cond0 rfl rfl ?_
 refine c_skip rfl ?_
 refine q_block ?_
 refine q_seq ?_
 refine r_ord (l := [0, 1, 2]) rfl (by kernel_rfl) (by kernel_rfl) ?_
 refine s_v rfl rfl rfl rfl (v_mv rfl rfl) ?_
 refine s_v rfl rfl rfl rfl (OpV.cast (v := .int .i64 ((i + 1 : Nat) : Int)) (v_ar rfl rfl rfl rfl) (addN (a := i) (b := 1) (by omega))) ?_
 refine s_v rfl rfl rfl rfl (v_as rfl rfl) ?_
 refine s_end ?_
 have hok : okB l (rd_T48 l (i : Int)) = true := by unfold okB; rw [h2_f, h3_]; rfl
 rw [rd48 hil] at hok
 exact q_again (i + 1) [0] ⟨by omega, all_nextG hil hs.2 hok⟩ (by show l.length - (i + 1) < l.length - i; omega) (subF_spec ⟨rfl, rfl, trivial⟩) rfl (by decide)
 have h2_f : ((rd_T48 l (i : Int)).f1.f0 == 5) = false := h2_
 have h2_d : (rd_T48 l ((i : Nat) : Int)).f1.f0 ≠ 5 := by simpa using h2_
 refine s_no rfl rfl rfl rfl ?_
 refine s_no rfl rfl rfl rfl ?_
 refine s_no rfl rfl rfl rfl ?_
 refine s_no rfl rfl rfl rfl ?_
 refine s_no rfl rfl rfl rfl ?_
 refine s_v rfl rfl rfl rfl (v_pick rfl rfl rfl rfl) ?_
 refine s_v rfl rfl rfl rfl (v_mv rfl rfl) ?_
 refine s_no rfl rfl rfl rfl ?_
 refine s_no rfl rfl rfl rfl ?_
 refine s_no rfl rfl rfl rfl ?_
 refine s_no rfl rfl rfl rfl ?_
 refine s_no rfl rfl rfl rfl ?_
 refine s_no rfl rfl rfl rfl ?_
 refine s_no rfl rfl rfl rfl ?_
 refine s_v rfl rfl rfl rfl (v_pick rfl rfl rfl rfl) ?_
 refine s_end ?_
 refine q_seq ?_
 refine c_cond0 rfl rfl ?_
 refine c_skip rfl ?_
 refine q_block ?_
 refine q_seq ?_
 refine r_ord (l := [0, 1, 2]) rfl (by kernel_rfl) (by kernel_rfl) ?_
 refine s_v rfl rfl rfl rfl (v_mv rfl rfl) ?_
 refine s_v rfl rfl rfl rfl (OpV.cast (v := .int .i64 ((i + 1 : Nat) : Int)) (v_ar rfl rfl rfl rfl) (addN (a := i) (b := 1) (by omega))) ?_
 refine s_v rfl rfl rfl rfl (v_as rfl rfl) ?_
 refine s_end ?_
 have hok : okB l (rd_T48 l (i : Int)) = true := by unfold okB; rw [h2_f]; rfl
 rw [rd48 hil] at hok
 exact q_again (i + 1) [0] ⟨by omega, all_nextG hil hs.2 hok⟩ (by show l.length - (i + 1) < l.length - i; omega) (subF_spec ⟨rfl, rfl, trivial⟩) rfl (by decide)
 have h1_d := of_decide_eq_false h1_
 have hend : rangesM l = true := all_endG (i := i) (by omega) hs.2
 refine c_exit (i := 0) rfl rfl ?_
 refine q_then_exit ?_
 refine q_then_exit ?_
 refine q_block_here rfl ?_
 refine q_seq ?_
 refine c_seq rfl ?_
 refine r_ord (l := [0]) rfl (by kernel_rfl) (by kernel_rfl) ?_
 refine s_v rfl rfl rfl rfl (v_as rfl rfl) ?_
 refine s_end ?_
 refine q_seq ?_
 refine c_ret rfl ?_
 refine q_take [] rfl (by decide) ?_
 rw [hend] at hX
 exact q_post rfl (.cons rfl (.nil)) hX
end Go.Eng
namespace Go.Eng
open Go.Proofs Go.RowKit Go.Proofs.YtiihjijmmephlaaW.PrintWords Go.Proofs.Ytiihjijmmephlaa.GHist
set_option linter.unusedVariables false
set_option linter.unusedSimpArgs false
def fewB (l : List S48) : Bool := l.all (fun x => decide (l.length ≤ 40) && decide (x.f6.f3.length ≤ 40))
theorem few_l (l : List S48) (hl : l.length ≤ 40) : ∀ (d k i : Nat), i ≤ l.length → l.length - i = d → d < k → stepstonelaw08_few.l0 k l l (l.length : Int) (i : Int) = some ((l.drop i).all (fun x => decide (l.length ≤ 40) && decide (x.f6.f3.length ≤ 40))) := by
  intro d
  induction d with
  | zero =>
    intro k i h1 h2 h3
    obtain ⟨k, rfl⟩ : ∃ m, k = m + 1 := ⟨k - 1, by omega⟩
    simp only [stepstonelaw08_few.l0]
    rw [if_neg (by omega), List.drop_of_length_le (by omega)]
    rfl
  | succ d ih =>
    intro k i h1 h2 h3
    obtain ⟨k, rfl⟩ : ∃ m, k = m + 1 := ⟨k - 1, by omega⟩
    have e1 : wrap64 ((i : Int) + 1) = ((i + 1 : Nat) : Int) := by rw [w64 (by omega) (by omega)]; omega
    have e : rd_T48 l (i : Int) = l[i]'(by omega) := rd48 (by omega)
    simp only [stepstonelaw08_few.l0, e1, ih k (i + 1) (by omega) (by omega) (by omega)]
    rw [if_pos (by omega), if_pos (by omega), if_pos (by omega), if_neg (by omega), List.drop_eq_getElem_cons (show i < l.length by omega), List.all_cons, e, decide_eq_true hl, Bool.true_and]
    by_cases h : (l[i]'(by omega)).f6.f3.length ≤ 40
    · rw [if_neg (by omega), decide_eq_true h, Bool.true_and]
    · rw [if_pos (by omega), decide_eq_false h, Bool.false_and]
theorem few_f (l : List S48) : stepstonelaw08_few.f 5000 l = some (fewB l) := by
  by_cases hl : l.length ≤ 40
  · have := few_l l hl l.length 5000 0 (Nat.zero_le _) (by omega) (by omega)
    rwa [List.drop_zero] at this
  · unfold stepstonelaw08_few.f
    obtain ⟨k, hk⟩ : ∃ k, 5000 = k + 1 := ⟨4999, rfl⟩
    rw [hk]
    simp only [stepstonelaw08_few.l0]
    rw [if_pos (by omega), if_pos (by omega), if_pos (by omega), if_pos (by omega)]
    cases l with
    | nil => simp at hl
    | cons x r => unfold fewB; rw [List.all_cons, decide_eq_false hl]; rfl
theorem few_len {l : List S48} (h : fewB l = true) : l.length ≤ 40 := by
  cases l with
  | nil => simp
  | cons x r => unfold fewB at h; rw [List.all_cons] at h; simp at h; have h1 := h.1.1; rw [List.length_cons]; omega
theorem few_keys {l : List S48} (h : fewB l = true) : ∀ x ∈ l, x.f6.f3.length ≤ 40 := by
  intro x hx
  unfold fewB at h
  rw [List.all_eq_true] at h
  have := h x hx
  simp at this
  exact this.2
theorem K48 {w : World} {x : S48} {A : Option Addr} {c : Nat} (h : KC (Kd.int .u64) A c x.f6.f3 w) : k48.K w x (cellsE x A c) := k48_mk w x h.2 h.1
theorem KI_nil (w : World) : KC (Kd.int .u64) none 0 [] w := KC_nil _ w
end Go.Eng
