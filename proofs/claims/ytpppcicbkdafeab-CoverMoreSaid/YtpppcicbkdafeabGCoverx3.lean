-- Written by this session's own program over the kit's printer, some functions by hand.
import Derived.Test.YtpppcicbkdafeabGCoverx0
namespace Go.Proofs.Ytpppcicbkdafeab.GCover
open Go.RowKit Go.Proofs.YtpppcicbkdafeabW.PrintWords Go.Proofs.YtpppcicbkdafeabW.PrintLast Go.Proofs.YtpppcicbkdafeabW.PrintMore
attribute [local go_sem] max2_int min2_int max_two min_two max_three min_three max_four min_four   -- for this text's walks alone
set_option linter.unusedVariables false
set_option linter.unusedSimpArgs false

/-! ### cover_Covered: function 10 -/

/-- Is an era one that covers? -/
def covB (b r x : Int) : Bool := x != 0 && (decide (b ≤ x) && decide (x ≤ r))
def cover_Covered.f (a0_0 : Int) (a0_1 : Int) (a0_2 : Int) (l1 : List Int) : Option (Bool) := if l1.length ≤ 140737488355328 then some (l1.any (covB a0_1 a0_2)) else none
theorem mkfn (fn : Fn) (first cap : Array Value) (w : World) : (Instr.makeFunc fn first cap).run Try.prog w = .ok (.func fn first cap) w := rfl
theorem covB_false {b r x : Int} (h : covB b r x = false) : x = 0 ∨ x < b ∨ r < x := by
  unfold covB at h
  by_cases h1 : x = 0
  · exact .inl h1
  by_cases h2 : b ≤ x
  · by_cases h3 : x ≤ r
    · simp [h1, h2, h3] at h
    · exact .inr (.inr (by omega))
  · exact .inr (.inl (by omega))
theorem covB_true {b r x : Int} (h : covB b r x = true) : x ≠ 0 ∧ b ≤ x ∧ x ≤ r := by
  unfold covB at h
  simp only [Bool.and_eq_true, decide_eq_true_eq, bne_iff_ne] at h
  exact h
set_option maxHeartbeats 1000000 in
set_option maxRecDepth 100000 in
theorem covered_one (x : Int) (g : Nat) (n b r : Int) (w : World) (hg : w.heap[g]? = some (.cells #[.int .u64 n, .int .u64 b, .int .u64 r] 28 (0, 0))) :
    Calls Try.prog 21 #[.int .u64 x, .pointer (some ⟨g, 0, none⟩)] w fun e w' => e = .returned (.bool (covB b r x)) ∧ Drawn0 w w' := by
  have hb : w.cell? ⟨g, 1, none⟩ = some (.int .u64 b) := by simp [World.cell?, hg]
  have hr : w.cell? ⟨g, 2, none⟩ = some (.int .u64 r) := by simp [World.cell?, hg]
  clear hg
  by_cases h1 : x = 0
  · have d1 : (x != 0) = false := by simp [h1]
    have F : Hid (covB b r x = false) := Lib.hid (by simp [covB, h1])
    clear h1
    go_enter Try.func21, Try.ntmps21
    go_wp2_with fail
    repeat (go_quiet (fail); try go_wp2_with fail)
    go_ret
    exact ⟨by rw [F.out]; rfl, by repeat (first | exact Drawn0.refl _ | apply Drawn0.step)⟩
  · have d1 : (x != 0) = true := bne_iff_ne.2 h1
    by_cases h2 : b ≤ x
    · have d2 : decide (b ≤ x) = true := decide_eq_true h2
      by_cases h3 : x ≤ r
      · have d3 : decide (x ≤ r) = true := decide_eq_true h3
        have F : Hid (covB b r x = true) := Lib.hid (by unfold covB; rw [d1, d2, d3]; rfl)
        clear h1 h2 h3
        go_enter Try.func21, Try.ntmps21
        go_wp2_with fail
        repeat (go_quiet (fail); try go_wp2_with fail)
        go_ret
        exact ⟨by rw [F.out]; rfl, by repeat (first | exact Drawn0.refl _ | apply Drawn0.step)⟩
      · have d3 : decide (x ≤ r) = false := decide_eq_false h3
        have F : Hid (covB b r x = false) := Lib.hid (by unfold covB; rw [d1, d2, d3]; rfl)
        clear h1 h2 h3
        go_enter Try.func21, Try.ntmps21
        go_wp2_with fail
        repeat (go_quiet (fail); try go_wp2_with fail)
        go_ret
        exact ⟨by rw [F.out]; rfl, by repeat (first | exact Drawn0.refl _ | apply Drawn0.step)⟩
    · have d2 : decide (b ≤ x) = false := decide_eq_false h2
      have F : Hid (covB b r x = false) := Lib.hid (by unfold covB; rw [d1, d2]; rfl)
      clear h1 h2
      go_enter Try.func21, Try.ntmps21
      go_wp2_with fail
      repeat (go_quiet (fail); try go_wp2_with fail)
      go_ret
      exact ⟨by rw [F.out]; rfl, by repeat (first | exact Drawn0.refl _ | apply Drawn0.step)⟩

/-- The first place at which an era covers; -1: there is none. -/
def covAt (b r : Int) : List Int → Int → Int
  | [], _ => -1
  | x :: xs, i => if covB b r x = true then i else covAt b r xs (i + 1)
theorem covAt_range (b r : Int) (l : List Int) : ∀ i : Int, 0 ≤ i → -1 ≤ covAt b r l i ∧ covAt b r l i ≤ i + l.length := by
  induction l with
  | nil => intro i h; simp only [covAt, List.length_nil]; omega
  | cons x xs ih =>
    intro i h
    simp only [covAt, List.length_cons]
    split
    · omega
    · have := ih (i + 1) (by omega); omega
theorem covAt_iff (b r : Int) (l : List Int) : ∀ i : Int, 0 ≤ i → (0 ≤ covAt b r l i ↔ l.any (covB b r) = true) := by
  induction l with
  | nil => intro i h; simp [covAt]
  | cons x xs ih =>
    intro i h
    rw [List.any_cons, covAt]
    by_cases hx : covB b r x = true
    · rw [if_pos hx, hx]; simp [h]
    · rw [if_neg hx, Bool.eq_false_iff.2 hx, Bool.false_or]; exact ih (i + 1) (by omega)
theorem covAt_any (b r : Int) (l : List Int) (i : Int) (h : 0 ≤ i) : decide (0 ≤ covAt b r l i) = l.any (covB b r) := by
  rw [Bool.eq_iff_iff, decide_eq_true_eq]; exact covAt_iff b r l i h
theorem drop_at (l : List Int) (i : Int) (h0 : 0 ≤ i) (h1 : i < l.length) : l.drop i.toNat = rd l i :: l.drop (i.toNat + 1) := by
  have h : i.toNat < l.length := by omega
  rw [List.drop_eq_getElem_cons h]; unfold rd; rw [List.getD_eq_getElem?_getD, List.getElem?_eq_getElem h]; rfl
set_option maxHeartbeats 1000000 in
set_option maxRecDepth 100000 in
theorem index_calls (A : Option Addr) (c : Nat) (l : List Int) (g : Nat) (n b r : Int) (w : World) (hr : Kd.C (Kd.int .u64) w A l.length l) (hc : l.length ≤ c) (hl : l.length ≤ 9223372036854775807)
    (hg : w.heap[g]? = some (.cells #[.int .u64 n, .int .u64 b, .int .u64 r] 28 (0, 0))) :
    Calls Try.prog 24 #[.slice A l.length c, .func (.func 21) #[] #[.pointer (some ⟨g, 0, none⟩)]] w fun e w' => e = .returned (.int .i64 (covAt b r l 0)) ∧ Drawn0 w w' := by
  have HR := Lib.hid hr
  have HG := Lib.hid hg
  clear hr hg hc
  go_enter Try.func24, Try.ntmps24
  go_wp2_with fail
  go_loopw [5, 8] (fun _ v8 w' => ∃ i : Int, v8 = .int .i64 i ∧ 0 ≤ i ∧ i ≤ (l.length : Int) ∧ Hid (covAt b r (l.drop i.toNat) i = covAt b r l 0) ∧ Hid (Drawn0 w w')) (fun _ v8 _ => l.length - (intOf v8).toNat)
  case atStart => exact ⟨0, rfl, by omega, by omega, Lib.hid rfl, Lib.hid (Drawn0.refl _)⟩
  case round =>
    obtain ⟨i, rfl, h0, h1, HS, HD⟩ := hrel
    by_cases hlt : i < (l.length : Int)
    · have d1 : decide (i < (l.length : Int)) = true := decide_eq_true hlt
      obtain ⟨ad, e1, hx⟩ := Kd.at_int HR.out i h0 hlt
      cases e1
      obtain ⟨⟨nn, hnn⟩⟩ := HD.out
      have HS2 : Hid (covAt b r l 0 = if covB b r (rd l i) = true then i else covAt b r (l.drop (i.toNat + 1)) (i + 1)) := Lib.hid (by rw [← HS.out, drop_at l i h0 hlt]; rfl)
      have hlt' : (i < (l.length : Int)) = True := eq_true hlt
      have h0' : (0 ≤ i) = True := eq_true h0
      subst hnn
      clear HD HS
      go_wp2_with fail
      refine (covered_one _ g n b r _ (show (w.drewN _).heap[g]? = _ from HG.out)).mono ?_
      rintro e w2 ⟨rfl, ⟨m, rfl⟩⟩
      by_cases hx1 : covB b r (rd l i) = true
      · have F : Hid (covAt b r l 0 = i) := Lib.hid (by rw [HS2.out, if_pos hx1])
        go_wp2_with fail
        go_ret
        exact ⟨by rw [F.out]; rfl, by repeat (first | exact Drawn0.refl _ | apply Drawn0.step)⟩
      · replace hx1 := Bool.eq_false_iff.2 hx1
        have F : Hid (covAt b r (l.drop (i.toNat + 1)) (i + 1) = covAt b r l 0) := Lib.hid (by rw [HS2.out, hx1, if_neg Bool.false_ne_true])
        have hu : i + 1 ≤ 9223372036854775807 := by omega
        go_wp2_with fail
        go_roundw
        case rel => exact ⟨i + 1, rfl, by omega, by omega, Lib.hid (by rw [show (i + 1).toNat = i.toNat + 1 by omega]; exact F.out), Lib.hid (by repeat (first | exact Drawn0.refl _ | apply Drawn0.step))⟩
        case measure => simp only [intOf]; omega
    · have d1 : decide (i < (l.length : Int)) = false := decide_eq_false hlt
      obtain ⟨⟨nn, hnn⟩⟩ := HD.out
      subst hnn
      have F : Hid (covAt b r l 0 = -1) := Lib.hid (by rw [← HS.out, show i.toNat = l.length by omega, List.drop_length]; rfl)
      clear HD HS
      go_wp2_with fail
      go_ret
      exact ⟨by rw [F.out]; rfl, by repeat (first | exact Drawn0.refl _ | apply Drawn0.step)⟩
set_option maxRecDepth 100000 in
theorem contains_calls (A : Option Addr) (c : Nat) (l : List Int) (g : Nat) (n b r : Int) (w : World) (hr : Kd.C (Kd.int .u64) w A l.length l) (hc : l.length ≤ c) (hl : l.length ≤ 140737488355328)
    (hg : w.heap[g]? = some (.cells #[.int .u64 n, .int .u64 b, .int .u64 r] 28 (0, 0))) :
    Calls Try.prog 20 #[.slice A l.length c, .func (.func 21) #[] #[.pointer (some ⟨g, 0, none⟩)]] w fun e w' => e = .returned (.bool (l.any (covB b r))) ∧ Drawn0 w w' := by
  have F : Hid (decide (0 ≤ covAt b r l 0) = l.any (covB b r)) := Lib.hid (covAt_any b r l 0 (by omega))
  have hc' := index_calls A c l g n b r w hr hc (by omega) hg
  clear hr hg hc
  go_enter Try.func20, Try.ntmps20
  go_wp2_with fail
  refine hc'.mono ?_
  rintro e w2 ⟨rfl, ⟨m, rfl⟩⟩
  go_wp2_with fail
  go_ret
  exact ⟨by rw [← F.out]; rfl, by repeat (first | exact Drawn0.refl _ | apply Drawn0.step)⟩
set_option maxRecDepth 100000 in
theorem cover_Covered.calls (a0_0 : Int) (a0_1 : Int) (a0_2 : Int) (A1 : Option Addr) (c1 : Nat) (l1 : List Int) (r : Bool) (w : World) (hr1 : Kd.C (Kd.int .u64) w A1 l1.length l1) (hc1 : l1.length ≤ c1) (h : cover_Covered.f a0_0 a0_1 a0_2 l1 = some r) :
    Calls Try.prog 10 #[.agg #[.int .u64 a0_0, .int .u64 a0_1, .int .u64 a0_2], .slice A1 l1.length c1] w fun e w' => e = .returned (.bool r) ∧ Below w.heap.size w w' := by
  unfold cover_Covered.f at h
  by_cases hl : l1.length ≤ 140737488355328
  · rw [if_pos hl] at h
    obtain rfl := Option.some.inj h
    have hg : (w.alloc (.cells #[.int .u64 a0_0, .int .u64 a0_1, .int .u64 a0_2] 28)).heap[w.heap.size]? = some (.cells #[.int .u64 a0_0, .int .u64 a0_1, .int .u64 a0_2] 28 (0, 0)) := by
      show (w.heap.push _)[w.heap.size]? = _
      exact Array.getElem?_push_size
    have hc' := contains_calls A1 c1 l1 w.heap.size a0_0 a0_1 a0_2 _ (Kd.C_alloc hr1 _) hc1 hl hg
    clear hr1 hc1 hg h
    go_enter Try.func10, Try.ntmps10
    go_wp2_with fail
    refine hc'.mono ?_
    rintro e w2 ⟨rfl, ⟨m, rfl⟩⟩
    go_wp2_with fail
    go_ret
    exact ⟨rfl, by repeat (first | exact Below.refl _ _ | apply below_alloc | apply pw_below_drewN | apply below_drew1)⟩
  · rw [if_neg hl] at h; cases h

/-- The variable at block g holds the eras. -/
def Eras (w : World) (g : Nat) (A : Option Addr) (c : Nat) (l : List Int) : Prop := g < w.heap.size ∧ w.heap[g]? = some (.cells #[.slice A l.length c] 25 (0, 0)) ∧ Kd.C (Kd.int .u64) w A l.length l
theorem Eras.below {w w' : World} {g : Nat} {A : Option Addr} {c : Nat} {l : List Int} (h : Eras w g A c l) (hb : Below w.heap.size w w') : Eras w' g A c l :=
  ⟨Nat.lt_of_lt_of_le h.1 hb.size, (hb.block g h.1).trans h.2.1, Kd.C_below h.2.2 hb⟩
set_option maxRecDepth 100000 in
theorem split_one (g : Nat) (a0 a1 a2 : Int) (A1 : Option Addr) (c1 : Nat) (l1 : List Int) (r : Bool) (w : World) (hr1 : Eras w g A1 c1 l1) (hc1 : l1.length ≤ c1) (h : cover_Covered.f a0 a1 a2 l1 = some r) :
    Calls Try.prog 23 #[.agg #[.int .u64 a0, .int .u64 a1, .int .u64 a2], .pointer (some ⟨g, 0, none⟩)] w fun e w' => e = .returned (.bool r) ∧ Below w.heap.size w w' := by
  have hC := cover_Covered.calls a0 a1 a2 A1 c1 l1 r (w.alloc (.cells #[.int .u64 a0, .int .u64 a1, .int .u64 a2] 28)) (Kd.C_alloc hr1.2.2 _) hc1 h
  have hg : (w.alloc (.cells #[.int .u64 a0, .int .u64 a1, .int .u64 a2] 28)).cell? ⟨g, 0, none⟩ = some (.slice A1 l1.length c1) := by
    rw [World.cell?_alloc_past _ _ _ hr1.1]; simp [World.cell?, hr1.2.1]
  clear hr1 hc1 h
  go_enter Try.func23, Try.ntmps23
  go_wp2_with fail
  refine hC.mono ?_
  rintro e w2 ⟨rfl, hb⟩
  go_wp2_with fail
  go_ret
  exact ⟨rfl, (below_alloc (Below.refl _ _) _).trans (hb.mono (by rw [World.size_alloc]; omega))⟩

/-! ### cover_Entry: function 22 -/
def cover_Entry.l0 : Nat → List Int → List (S28) → List (S28) → List (S28) → Int → Int → Option ((List (S28)) × (List (S28)))
  | 0, _, _, _, _, _, _ => none
  | k + 1, x1, x6, x7, x10, x11, x12 => if x12 < x11 then (if 0 ≤ x12 then (if x12 < (x10.length : Int) then ((cover_Covered.f ((rd_T28 x10 x12).f0) ((rd_T28 x10 x12).f1) ((rd_T28 x10 x12).f2) x1).bind fun t103 => (if t103 = true then (if x6.length < 5864062014805 then (cover_Entry.l0 k x1 (x6 ++ [(⟨(rd_T28 x10 x12).f0, (rd_T28 x10 x12).f1, (rd_T28 x10 x12).f2⟩ : S28)]) x7 x10 x11 (wrap64 (x12 + 1))) else (none)) else (if x7.length < 5864062014805 then (cover_Entry.l0 k x1 x6 (x7 ++ [(⟨(rd_T28 x10 x12).f0, (rd_T28 x10 x12).f1, (rd_T28 x10 x12).f2⟩ : S28)]) x10 x11 (wrap64 (x12 + 1))) else (none)))) else (none)) else (none)) else (some (x6, x7))
def cover_Entry.f (k : Nat) (l0 : List (S28)) (l1 : List Int) : Option ((List (S28)) × (List (S28))) := cover_Entry.l0 k l1 ([] : List (S28)) ([] : List (S28)) l0 (l0.length : Int) 0
theorem cover_Entry.mono_l : ∀ k, (∀ y0 y1 y2 y3 y4 y5, LeO (cover_Entry.l0 k y0 y1 y2 y3 y4 y5) (cover_Entry.l0 (k + 1) y0 y1 y2 y3 y4 y5))
  | 0 => fun _ _ _ _ _ _ r h => by simp [cover_Entry.l0] at h
  | k + 1 => by
    have ih0 := cover_Entry.mono_l k
    · intro y0 y1 y2 y3 y4 y5
      unfold cover_Entry.l0
      repeat' first
      | (with_reducible exact ih0 _ _ _ _ _ _)
      | (with_reducible exact LeO.refl _)
      | (with_reducible exact LeO.none _)
      | (with_reducible refine LeO.ite ?_ ?_)
      | (with_reducible refine LeO.bind ?_ (fun _ => ?_))
      | exact ih0 _ _ _ _ _ _
      | exact LeO.none _
      | refine LeO.ite ?_ ?_
      | refine LeO.bind ?_ (fun _ => ?_)
theorem cover_Entry.mono : ∀ a0 a1 k, LeO (cover_Entry.f k a0 a1) (cover_Entry.f (k + 1) a0 a1) := by
  intro a0 a1 k
  have ih0 := cover_Entry.mono_l k
  unfold cover_Entry.f
  repeat' first
      | (with_reducible exact ih0 _ _ _ _ _ _)
      | (with_reducible exact LeO.refl _)
      | (with_reducible exact LeO.none _)
      | (with_reducible refine LeO.ite ?_ ?_)
      | (with_reducible refine LeO.bind ?_ (fun _ => ?_))
      | exact ih0 _ _ _ _ _ _
      | exact LeO.none _
      | refine LeO.ite ?_ ?_
      | refine LeO.bind ?_ (fun _ => ?_)
set_option maxHeartbeats 8000000 in
set_option maxRecDepth 100000 in
theorem cover_Entry.calls (k : Nat) (A0 : Option Addr) (c0 : Nat) (l0 : List (S28)) (A1 : Option Addr) (c1 : Nat) (l1 : List Int) (r1 : List (S28)) (r2 : List (S28)) (g : Nat) (w : World) (hr0 : Kd.C k28 w A0 l0.length l0) (hc0 : l0.length ≤ c0) (hr1 : Eras w g A1 c1 l1) (hc1 : l1.length ≤ c1) (h : cover_Entry.f k l0 l1 = some (r1, r2)) :
    Calls Try.prog 22 #[.slice A0 l0.length c0, .func (.func 23) #[] #[.pointer (some ⟨g, 0, none⟩)]] w fun e w' => ∃ v0_ v1_ : Value, e = .returned (.tuple #[v0_, v1_]) ∧ Kd.R k28 28 w' w.heap.size (fun k_ => some k_ ≠ (v1_ : Value).ownBlock) v0_ r1 ∧ Kd.R k28 28 w' w.heap.size (fun k_ => some k_ ≠ (v0_ : Value).ownBlock) v1_ r2 ∧ Below w.heap.size w w' := by
  have hu28 := Try.underlying28
  have HR0 := Aside0.mk hr0
  have HC0 := Aside0.mk hc0
  clear hr0 hc0
  have HR1 := Aside0.mk hr1
  have HC1 := Aside0.mk hc1
  clear hr1 hc1
  have HB := Aside0.mk (Below.refl w.heap.size w)
  have H : (cover_Entry.l0 k l1 ([] : List (S28)) ([] : List (S28)) l0 (l0.length : Int) 0) = some (r1, r2) := h
  clear h
  have H' := Aside0.mk H
  clear H
  go_enter Try.func22, Try.ntmps22
  go_wp2
  go_loopg [6, 7, 12] k (fun kq v6 v7 v12 w' => ∃ (x6_1 : List (S28)) (x7_1 : List (S28)) (x12_1 : Int), v12 = .int .i64 x12_1 ∧ Aside0 (cover_Entry.l0 kq l1 x6_1 x7_1 l0 (l0.length : Int) x12_1 = some (r1, r2)) ∧ Aside0 (kq ≤ k) ∧ Aside0 (Kd.R k28 28 w' w.heap.size (fun k_ => some k_ ≠ (v7 : Value).ownBlock) v6 x6_1) ∧ Aside0 (Kd.R k28 28 w' w.heap.size (fun k_ => some k_ ≠ (v6 : Value).ownBlock) v7 x7_1) ∧ Aside0 (Below w.heap.size w w'))
  case atStart => exact ⟨(([] : List (S28))), (([] : List (S28))), (0), (by first | rfl | (simp; done) | (simp [*]; done)), H', ⟨Nat.le_refl _⟩, ⟨by first | exact Kd.R_nil _ _ _ _ _ | exact Kd.N_nil _ _ _ _ _ | exact Kd.V_nil _ _ _ _ _ | exact Kd.Q_nil _ _ _ _ _ | exact Kd.S_nil _ _ _ _ _⟩, ⟨by first | exact Kd.R_nil _ _ _ _ _ | exact Kd.N_nil _ _ _ _ _ | exact Kd.V_nil _ _ _ _ _ | exact Kd.Q_nil _ _ _ _ _ | exact Kd.S_nil _ _ _ _ _⟩, ⟨by repeat (first | (with_reducible first | exact HB.out | apply below_alloc | apply pw_below_drewN | apply below_drew1) | exact HB.out)⟩⟩
  case round =>
    clear H'
    try clear c1
    try clear c2
    try clear p2
    obtain ⟨x6_1, x7_1, x12_1, rfl, HA, HK1, HO_6, HO_7, HB⟩ := hrel
    cases gk with
    | zero => exact absurd HA.out (by simp [cover_Entry.l0])
    | succ k1 =>
      have H := HA.out
      clear HA
      simp only [cover_Entry.l0] at H
      by_cases c3 : x12_1 < (l0.length : Int)
      · rw [if_pos c3] at H
        have c3b0 : decide (x12_1 < (l0.length : Int)) = true := decide_eq_true c3
        clear c3
        by_cases c4 : 0 ≤ x12_1
        · rw [if_pos c4] at H
          have c4b0 : decide (0 ≤ x12_1) = true := decide_eq_true c4
          clear c4
          by_cases c5 : x12_1 < (l0.length : Int)
          · rw [if_pos c5] at H
            have c5b0 : decide (x12_1 < (l0.length : Int)) = true := decide_eq_true c5
            clear c5
            replace H := Option.bind_eq_some_iff.mp H
            obtain ⟨t103, A60, H⟩ := H
            replace H : (if t103 = true then (if x6_1.length < 5864062014805 then (cover_Entry.l0 k1 l1 (x6_1 ++ [(⟨(rd_T28 l0 x12_1).f0, (rd_T28 l0 x12_1).f1, (rd_T28 l0 x12_1).f2⟩ : S28)]) x7_1 l0 (l0.length : Int) (wrap64 (x12_1 + 1))) else (none)) else (if x7_1.length < 5864062014805 then (cover_Entry.l0 k1 l1 x6_1 (x7_1 ++ [(⟨(rd_T28 l0 x12_1).f0, (rd_T28 l0 x12_1).f1, (rd_T28 l0 x12_1).f2⟩ : S28)]) l0 (l0.length : Int) (wrap64 (x12_1 + 1))) else (none))) = some (r1, r2) := H
            have A6 := Aside0.mk A60
            clear A60
            by_cases c7 : t103 = true
            · subst c7
              have H1 : (if x6_1.length < 5864062014805 then (cover_Entry.l0 k1 l1 (x6_1 ++ [(⟨(rd_T28 l0 x12_1).f0, (rd_T28 l0 x12_1).f1, (rd_T28 l0 x12_1).f2⟩ : S28)]) x7_1 l0 (l0.length : Int) (wrap64 (x12_1 + 1))) else (none)) = some (r1, r2) := by rw [if_pos rfl] at H; exact H
              clear H
              have H := H1
              clear H1
              by_cases c8 : x6_1.length < 5864062014805
              · rw [if_pos c8] at H
                have LMc8 := Aside0.mk c8
                clear c8
                obtain ⟨y104, hy104⟩ : ∃ y_ : List (S28), y_ = (x6_1 ++ [(⟨(rd_T28 l0 x12_1).f0, (rd_T28 l0 x12_1).f1, (rd_T28 l0 x12_1).f2⟩ : S28)]) := ⟨_, rfl⟩
                replace H : (cover_Entry.l0 k1 l1 y104 x7_1 l0 (l0.length : Int) (wrap64 (x12_1 + 1))) = some (r1, r2) := by first | (rw [hy104]; with_reducible exact H) | (have H2_ := (Option.bind_some _ _).symm.trans H; rw [hy104]; with_reducible exact H2_) | (have H2_ := (Option.bind_some _ _).symm.trans H; with_reducible exact H2_) | with_reducible exact H | (rw [hy104]; exact H) | exact H
                have Ny104 := Aside0.mk hy104
                clear hy104
                have H' := Aside0.mk H
                clear H
                have p101 : 0 ≤ (x12_1 : Int) := of_decide_eq_true (by first | (with_reducible assumption) | assumption)
                have q101 : x12_1 < (l0.length : Int) := of_decide_eq_true (by first | (with_reducible assumption) | assumption)
                obtain ⟨ad101, e101, hx101_0, hx101_1, hx101_2⟩ := at_T28 HR0.out x12_1 p101 q101
                cases e101
                replace hx101_0 := (HB.out.cell (World.block_lt_of_cell? w _ hx101_0)).trans hx101_0
                replace hx101_1 := (HB.out.cell (World.block_lt_of_cell? w _ hx101_1)).trans hx101_1
                replace hx101_2 := (HB.out.cell (World.block_lt_of_cell? w _ hx101_2)).trans hx101_2
                replace p101 := eq_true p101
                replace q101 := eq_true q101
                go_wp2_with (first | ((with_reducible refine gate_dst (N := 9) rfl ?_); refine box_event ?hg (N := 9) ?hd (cs := #[.int .u64 0, .int .u64 0, .int .u64 0]) (t := 28) ?hr ?_; (case hd => rfl); (case hg => rfl); (case hr => first | (go_simp; done) | (go_simp; rfl)); intro gb102 hg w9 hbox hb; have n0_ := Aside0.mk (Kd.R_below (Kd.R_elderB (by (with_reducible repeat (first | apply Kd.R_alloc | apply Kd.R_drewN | apply Kd.R_drew)); exact HO_6.out) gb102 (Nat.le_of_eq hg.symm)) hb); have n1_ := Aside0.mk (Kd.R_below (Kd.R_elderB (by (with_reducible repeat (first | apply Kd.R_alloc | apply Kd.R_drewN | apply Kd.R_drew)); exact HO_7.out) gb102 (Nat.le_of_eq hg.symm)) hb); have n2_ := Aside0.mk (below_step (by repeat (first | (with_reducible first | exact HB.out | apply below_alloc | apply pw_below_drewN | apply below_drew1) | exact HB.out)) hb); have n3_ := Aside0.mk (hbox); have n4_ := Aside0.mk ((by rw [hg]; exact (below_size (by repeat (first | (with_reducible first | exact HB.out | apply below_alloc | apply pw_below_drewN | apply below_drew1) | exact HB.out))) : w.heap.size ≤ gb102)); have n5_ := Aside0.mk ((by rw [hg]; exact (below_size (by repeat (first | (with_reducible first | exact HB.out | apply below_alloc | apply pw_below_drewN | apply below_drew1) | exact HB.out))) : w.heap.size ≤ gb102)); clear HO_6; clear HO_7; clear HB; have HO_6 := n0_; have HO_7 := n1_; have HB := n2_; have BK102 := n3_; have GW102 := n4_; have GE102 := n5_; clear n0_ n1_ n2_ n3_ n4_ n5_; clear hb hbox hg; have hcz10_0 : w9.cell? ⟨gb102, 0, none⟩ = some (.int .u64 0) := (blk_cell BK102.out 0).trans rfl; have hcz10_1 : w9.cell? ⟨gb102, 1, none⟩ = some (.int .u64 0) := (blk_cell BK102.out 1).trans rfl; have hcz10_2 : w9.cell? ⟨gb102, 2, none⟩ = some (.int .u64 0) := (blk_cell BK102.out 2).trans rfl; have hfz10_0 := blk_frozen BK102.out 0; have hfz10_1 := blk_frozen BK102.out 1; have hfz10_2 := blk_frozen BK102.out 2) | ((go_at_call 23); (with_reducible refine (split_one g ((rd_T28 l0 x12_1).f0) ((rd_T28 l0 x12_1).f1) ((rd_T28 l0 x12_1).f2) A1 c1 l1 true _ ?side1 ?side2 A6.out).mono ?_); (case side1 => exact Eras.below HR1.out (by repeat (first | (with_reducible first | exact HB.out | apply below_alloc | apply pw_below_drewN | apply below_drew1 | refine below_set ?_ GE102.out) | exact HB.out))); (case side2 => exact HC1.out); rintro e w11 ⟨rfl, hb⟩; have n0_ := Aside0.mk (Kd.R_below (by (with_reducible repeat (first | apply Kd.R_alloc | apply Kd.R_drewN | apply Kd.R_drew)); exact (Kd.R_mono (Kd.R_far (p := ⟨gb102, 2, none⟩) (Kd.R_far (p := ⟨gb102, 1, none⟩) (Kd.R_far (p := ⟨gb102, 0, none⟩) (Kd.R_mono HO_6.out (fun k_ hk => (⟨hk, hk.2⟩ : _ ∧ k_ ≠ gb102))) (fun _ hk => hk.2) (.int .u64 ((rd_T28 l0 x12_1).f0))) (fun _ hk => hk.2) (.int .u64 ((rd_T28 l0 x12_1).f1))) (fun _ hk => hk.2) (.int .u64 ((rd_T28 l0 x12_1).f2))) (fun _ h_ => h_.1))) hb); have n1_ := Aside0.mk (Kd.R_below (by (with_reducible repeat (first | apply Kd.R_alloc | apply Kd.R_drewN | apply Kd.R_drew)); exact (Kd.R_mono (Kd.R_far (p := ⟨gb102, 2, none⟩) (Kd.R_far (p := ⟨gb102, 1, none⟩) (Kd.R_far (p := ⟨gb102, 0, none⟩) (Kd.R_mono HO_7.out (fun k_ hk => (⟨hk, hk.2⟩ : _ ∧ k_ ≠ gb102))) (fun _ hk => hk.2) (.int .u64 ((rd_T28 l0 x12_1).f0))) (fun _ hk => hk.2) (.int .u64 ((rd_T28 l0 x12_1).f1))) (fun _ hk => hk.2) (.int .u64 ((rd_T28 l0 x12_1).f2))) (fun _ h_ => h_.1))) hb); have n2_ := Aside0.mk (blk_below (g := gb102) (o := .cells #[.int .u64 ((rd_T28 l0 x12_1).f0), .int .u64 ((rd_T28 l0 x12_1).f1), .int .u64 ((rd_T28 l0 x12_1).f2)] 28 (0, 0)) (by (with_reducible repeat (first | refine blk_drewN ?_ _ | refine blk_drew ?_ | refine blk_alloc ?_ _)); refine blk_put (cs := #[.int .u64 ((rd_T28 l0 x12_1).f0), .int .u64 ((rd_T28 l0 x12_1).f1), .int .u64 0]) ?_ 2 _ rfl; (with_reducible repeat (first | refine blk_drewN ?_ _ | refine blk_drew ?_ | refine blk_alloc ?_ _)); refine blk_put (cs := #[.int .u64 ((rd_T28 l0 x12_1).f0), .int .u64 0, .int .u64 0]) ?_ 1 _ rfl; (with_reducible repeat (first | refine blk_drewN ?_ _ | refine blk_drew ?_ | refine blk_alloc ?_ _)); refine blk_put (cs := #[.int .u64 0, .int .u64 0, .int .u64 0]) ?_ 0 _ rfl; (with_reducible repeat (first | refine blk_drewN ?_ _ | refine blk_drew ?_ | refine blk_alloc ?_ _)); exact BK102.out) hb); have n3_ := Aside0.mk (below_step (by repeat (first | (with_reducible first | exact HB.out | apply below_alloc | apply pw_below_drewN | apply below_drew1 | refine below_set ?_ GE102.out) | exact HB.out)) hb); clear HO_6; clear HO_7; clear BK102; clear HB; have HO_6 := n0_; have HO_7 := n1_; have BK102 := n2_; have HB := n3_; clear n0_ n1_ n2_ n3_; (try clear hb); (try clear hb2); (try clear hk); (try clear hi); have hcz12_0 : w11.cell? ⟨gb102, 0, none⟩ = some (.int .u64 ((rd_T28 l0 x12_1).f0)) := (blk_cell BK102.out 0).trans rfl; have hcz12_1 : w11.cell? ⟨gb102, 1, none⟩ = some (.int .u64 ((rd_T28 l0 x12_1).f1)) := (blk_cell BK102.out 1).trans rfl; have hcz12_2 : w11.cell? ⟨gb102, 2, none⟩ = some (.int .u64 ((rd_T28 l0 x12_1).f2)) := (blk_cell BK102.out 2).trans rfl; have hfz12_0 := blk_frozen BK102.out 0; have hfz12_1 := blk_frozen BK102.out 1; have hfz12_2 := blk_frozen BK102.out 2) | ((with_reducible refine gate_builtin (b := .append) (xs := #[.tmp 19, .tmp 21]) rfl ?_); at_builtin; refine Kd.R_append k28 (w0 := w) w.heap.size rfl (.tmp 19) (.tmp 21) 31 28 (.agg #[(.int .u64 0), (.int .u64 0), (.int .u64 0)]) 24 rfl Try.underlying31 info28 rfl (by decide) (by omega) u6 x6_1 (⟨(rd_T28 l0 x12_1).f0, (rd_T28 l0 x12_1).f1, (rd_T28 l0 x12_1).f2⟩ : S28) [.int .u64 ((rd_T28 l0 x12_1).f0), .int .u64 ((rd_T28 l0 x12_1).f1), .int .u64 ((rd_T28 l0 x12_1).f2)] (fun k_ => some k_ ≠ (u7 : Value).ownBlock ∧ k_ ≠ gb102) (fun _ => False) rfl rfl ?aP (fun _ hk => hk.elim) ?aF ?aO ?aB ?aS ?aL ?_; (case aP => exact k28_mkM _ _ _ (⟨(rd_T28 l0 x12_1).f0, (rd_T28 l0 x12_1).f1, (rd_T28 l0 x12_1).f2⟩ : S28)); (case aB => exact (by repeat (first | (with_reducible first | exact HB.out | apply below_alloc | apply pw_below_drewN | apply below_drew1 | refine below_set ?_ GE102.out) | exact HB.out))); (case aF => exact (fun k_ hk => ⟨Kd.fresh' (Kd.R_lt (by (with_reducible repeat (first | apply Kd.R_alloc | apply Kd.R_drewN | apply Kd.R_drew)); exact HO_7.out)) k_ hk, Kd.freshB (g := gb102) (o := .cells #[.int .u64 ((rd_T28 l0 x12_1).f0), .int .u64 ((rd_T28 l0 x12_1).f1), .int .u64 ((rd_T28 l0 x12_1).f2)] 28 (0, 0)) (by (with_reducible repeat (first | refine blk_drewN ?_ _ | refine blk_drew ?_ | refine blk_alloc ?_ _)); exact BK102.out) k_ hk⟩)); (case aO => exact (by (with_reducible repeat (first | apply Kd.R_alloc | apply Kd.R_drewN | apply Kd.R_drew)); exact HO_6.out)); (case aS => exact (below_size (by repeat (first | (with_reducible first | exact HB.out | apply below_alloc | apply pw_below_drewN | apply below_drew1 | refine below_set ?_ GE102.out) | exact HB.out)))); (case aL => have := LMc8.out; omega); intro v105 w13 ho hb hg hat; rw [← Ny104.out] at ho; have n0_ := Aside0.mk (Kd.R_after (ok := (fun k_ => k_ ≠ gb102)) (by (with_reducible repeat (first | apply Kd.R_alloc | apply Kd.R_drewN | apply Kd.R_drew)); exact Kd.R_mono HO_7.out (fun _ hk => ⟨hk.2, hk.1⟩)) hg hat); have n1_ := Aside0.mk (blk_grown (g := gb102) (o := .cells #[.int .u64 ((rd_T28 l0 x12_1).f0), .int .u64 ((rd_T28 l0 x12_1).f1), .int .u64 ((rd_T28 l0 x12_1).f2)] 28 (0, 0)) (by (with_reducible repeat (first | refine blk_drewN ?_ _ | refine blk_drew ?_ | refine blk_alloc ?_ _)); exact BK102.out) hg (Kd.R_away HO_6.out (fun _ hk => hk.2))); have n2_ := Aside0.mk (hb); have n3_ := Aside0.mk (ho); clear HO_7; clear BK102; clear HB; clear HO_6; have HO_7 := n0_; have BK102 := n1_; have HB := n2_; have HO106 := n3_; clear n0_ n1_ n2_ n3_; clear ho hb hg hat))
                go_roundg k1
                case measure => have := HK1.out; omega
                case rel => exact ⟨(y104), (x7_1), (wrap64 (x12_1 + 1)), (by first | rfl | (simp; done) | (simp [*]; done)), H', ⟨by have := HK1.out; omega⟩, ⟨by (with_reducible repeat (first | apply Kd.R_alloc | apply Kd.R_drewN | apply Kd.R_drew)); exact Kd.R_mono HO106.out (fun _ hk => hk.1)⟩, ⟨by (with_reducible repeat (first | apply Kd.R_alloc | apply Kd.R_drewN | apply Kd.R_drew)); exact Kd.R_mono HO_7.out (fun _ hk => hk.2)⟩, ⟨by repeat (first | (with_reducible first | exact HB.out | apply below_alloc | apply pw_below_drewN | apply below_drew1 | refine below_set ?_ GE102.out) | exact HB.out)⟩⟩
              · rw [if_neg c8] at H
                exact absurd H (by simp)
            · replace c7 := Bool.eq_false_iff.mpr c7
              subst c7
              have H1 : (if x7_1.length < 5864062014805 then (cover_Entry.l0 k1 l1 x6_1 (x7_1 ++ [(⟨(rd_T28 l0 x12_1).f0, (rd_T28 l0 x12_1).f1, (rd_T28 l0 x12_1).f2⟩ : S28)]) l0 (l0.length : Int) (wrap64 (x12_1 + 1))) else (none)) = some (r1, r2) := by rw [if_neg (show ¬ (false = true) by decide)] at H; exact H
              clear H
              have H := H1
              clear H1
              by_cases c14 : x7_1.length < 5864062014805
              · rw [if_pos c14] at H
                have LMc14 := Aside0.mk c14
                clear c14
                obtain ⟨y107, hy107⟩ : ∃ y_ : List (S28), y_ = (x7_1 ++ [(⟨(rd_T28 l0 x12_1).f0, (rd_T28 l0 x12_1).f1, (rd_T28 l0 x12_1).f2⟩ : S28)]) := ⟨_, rfl⟩
                replace H : (cover_Entry.l0 k1 l1 x6_1 y107 l0 (l0.length : Int) (wrap64 (x12_1 + 1))) = some (r1, r2) := by first | (rw [hy107]; with_reducible exact H) | (have H2_ := (Option.bind_some _ _).symm.trans H; rw [hy107]; with_reducible exact H2_) | (have H2_ := (Option.bind_some _ _).symm.trans H; with_reducible exact H2_) | with_reducible exact H | (rw [hy107]; exact H) | exact H
                have Ny107 := Aside0.mk hy107
                clear hy107
                have H' := Aside0.mk H
                clear H
                have p101 : 0 ≤ (x12_1 : Int) := of_decide_eq_true (by first | (with_reducible assumption) | assumption)
                have q101 : x12_1 < (l0.length : Int) := of_decide_eq_true (by first | (with_reducible assumption) | assumption)
                obtain ⟨ad101, e101, hx101_0, hx101_1, hx101_2⟩ := at_T28 HR0.out x12_1 p101 q101
                cases e101
                replace hx101_0 := (HB.out.cell (World.block_lt_of_cell? w _ hx101_0)).trans hx101_0
                replace hx101_1 := (HB.out.cell (World.block_lt_of_cell? w _ hx101_1)).trans hx101_1
                replace hx101_2 := (HB.out.cell (World.block_lt_of_cell? w _ hx101_2)).trans hx101_2
                replace p101 := eq_true p101
                replace q101 := eq_true q101
                go_wp2_with (first | ((with_reducible refine gate_dst (N := 9) rfl ?_); refine box_event ?hg (N := 9) ?hd (cs := #[.int .u64 0, .int .u64 0, .int .u64 0]) (t := 28) ?hr ?_; (case hd => rfl); (case hg => rfl); (case hr => first | (go_simp; done) | (go_simp; rfl)); intro gb102 hg w15 hbox hb; have n0_ := Aside0.mk (Kd.R_below (Kd.R_elderB (by (with_reducible repeat (first | apply Kd.R_alloc | apply Kd.R_drewN | apply Kd.R_drew)); exact HO_6.out) gb102 (Nat.le_of_eq hg.symm)) hb); have n1_ := Aside0.mk (Kd.R_below (Kd.R_elderB (by (with_reducible repeat (first | apply Kd.R_alloc | apply Kd.R_drewN | apply Kd.R_drew)); exact HO_7.out) gb102 (Nat.le_of_eq hg.symm)) hb); have n2_ := Aside0.mk (below_step (by repeat (first | (with_reducible first | exact HB.out | apply below_alloc | apply pw_below_drewN | apply below_drew1) | exact HB.out)) hb); have n3_ := Aside0.mk (hbox); have n4_ := Aside0.mk ((by rw [hg]; exact (below_size (by repeat (first | (with_reducible first | exact HB.out | apply below_alloc | apply pw_below_drewN | apply below_drew1) | exact HB.out))) : w.heap.size ≤ gb102)); have n5_ := Aside0.mk ((by rw [hg]; exact (below_size (by repeat (first | (with_reducible first | exact HB.out | apply below_alloc | apply pw_below_drewN | apply below_drew1) | exact HB.out))) : w.heap.size ≤ gb102)); clear HO_6; clear HO_7; clear HB; have HO_6 := n0_; have HO_7 := n1_; have HB := n2_; have BK102 := n3_; have GW102 := n4_; have GE102 := n5_; clear n0_ n1_ n2_ n3_ n4_ n5_; clear hb hbox hg; have hcz16_0 : w15.cell? ⟨gb102, 0, none⟩ = some (.int .u64 0) := (blk_cell BK102.out 0).trans rfl; have hcz16_1 : w15.cell? ⟨gb102, 1, none⟩ = some (.int .u64 0) := (blk_cell BK102.out 1).trans rfl; have hcz16_2 : w15.cell? ⟨gb102, 2, none⟩ = some (.int .u64 0) := (blk_cell BK102.out 2).trans rfl; have hfz16_0 := blk_frozen BK102.out 0; have hfz16_1 := blk_frozen BK102.out 1; have hfz16_2 := blk_frozen BK102.out 2) | ((go_at_call 23); (with_reducible refine (split_one g ((rd_T28 l0 x12_1).f0) ((rd_T28 l0 x12_1).f1) ((rd_T28 l0 x12_1).f2) A1 c1 l1 false _ ?side1 ?side2 A6.out).mono ?_); (case side1 => exact Eras.below HR1.out (by repeat (first | (with_reducible first | exact HB.out | apply below_alloc | apply pw_below_drewN | apply below_drew1 | refine below_set ?_ GE102.out) | exact HB.out))); (case side2 => exact HC1.out); rintro e w17 ⟨rfl, hb⟩; have n0_ := Aside0.mk (Kd.R_below (by (with_reducible repeat (first | apply Kd.R_alloc | apply Kd.R_drewN | apply Kd.R_drew)); exact (Kd.R_mono (Kd.R_far (p := ⟨gb102, 2, none⟩) (Kd.R_far (p := ⟨gb102, 1, none⟩) (Kd.R_far (p := ⟨gb102, 0, none⟩) (Kd.R_mono HO_6.out (fun k_ hk => (⟨hk, hk.2⟩ : _ ∧ k_ ≠ gb102))) (fun _ hk => hk.2) (.int .u64 ((rd_T28 l0 x12_1).f0))) (fun _ hk => hk.2) (.int .u64 ((rd_T28 l0 x12_1).f1))) (fun _ hk => hk.2) (.int .u64 ((rd_T28 l0 x12_1).f2))) (fun _ h_ => h_.1))) hb); have n1_ := Aside0.mk (Kd.R_below (by (with_reducible repeat (first | apply Kd.R_alloc | apply Kd.R_drewN | apply Kd.R_drew)); exact (Kd.R_mono (Kd.R_far (p := ⟨gb102, 2, none⟩) (Kd.R_far (p := ⟨gb102, 1, none⟩) (Kd.R_far (p := ⟨gb102, 0, none⟩) (Kd.R_mono HO_7.out (fun k_ hk => (⟨hk, hk.2⟩ : _ ∧ k_ ≠ gb102))) (fun _ hk => hk.2) (.int .u64 ((rd_T28 l0 x12_1).f0))) (fun _ hk => hk.2) (.int .u64 ((rd_T28 l0 x12_1).f1))) (fun _ hk => hk.2) (.int .u64 ((rd_T28 l0 x12_1).f2))) (fun _ h_ => h_.1))) hb); have n2_ := Aside0.mk (blk_below (g := gb102) (o := .cells #[.int .u64 ((rd_T28 l0 x12_1).f0), .int .u64 ((rd_T28 l0 x12_1).f1), .int .u64 ((rd_T28 l0 x12_1).f2)] 28 (0, 0)) (by (with_reducible repeat (first | refine blk_drewN ?_ _ | refine blk_drew ?_ | refine blk_alloc ?_ _)); refine blk_put (cs := #[.int .u64 ((rd_T28 l0 x12_1).f0), .int .u64 ((rd_T28 l0 x12_1).f1), .int .u64 0]) ?_ 2 _ rfl; (with_reducible repeat (first | refine blk_drewN ?_ _ | refine blk_drew ?_ | refine blk_alloc ?_ _)); refine blk_put (cs := #[.int .u64 ((rd_T28 l0 x12_1).f0), .int .u64 0, .int .u64 0]) ?_ 1 _ rfl; (with_reducible repeat (first | refine blk_drewN ?_ _ | refine blk_drew ?_ | refine blk_alloc ?_ _)); refine blk_put (cs := #[.int .u64 0, .int .u64 0, .int .u64 0]) ?_ 0 _ rfl; (with_reducible repeat (first | refine blk_drewN ?_ _ | refine blk_drew ?_ | refine blk_alloc ?_ _)); exact BK102.out) hb); have n3_ := Aside0.mk (below_step (by repeat (first | (with_reducible first | exact HB.out | apply below_alloc | apply pw_below_drewN | apply below_drew1 | refine below_set ?_ GE102.out) | exact HB.out)) hb); clear HO_6; clear HO_7; clear BK102; clear HB; have HO_6 := n0_; have HO_7 := n1_; have BK102 := n2_; have HB := n3_; clear n0_ n1_ n2_ n3_; (try clear hb); (try clear hb2); (try clear hk); (try clear hi); have hcz18_0 : w17.cell? ⟨gb102, 0, none⟩ = some (.int .u64 ((rd_T28 l0 x12_1).f0)) := (blk_cell BK102.out 0).trans rfl; have hcz18_1 : w17.cell? ⟨gb102, 1, none⟩ = some (.int .u64 ((rd_T28 l0 x12_1).f1)) := (blk_cell BK102.out 1).trans rfl; have hcz18_2 : w17.cell? ⟨gb102, 2, none⟩ = some (.int .u64 ((rd_T28 l0 x12_1).f2)) := (blk_cell BK102.out 2).trans rfl; have hfz18_0 := blk_frozen BK102.out 0; have hfz18_1 := blk_frozen BK102.out 1; have hfz18_2 := blk_frozen BK102.out 2) | ((with_reducible refine gate_builtin (b := .append) (xs := #[.tmp 23, .tmp 25]) rfl ?_); at_builtin; refine Kd.R_append k28 (w0 := w) w.heap.size rfl (.tmp 23) (.tmp 25) 31 28 (.agg #[(.int .u64 0), (.int .u64 0), (.int .u64 0)]) 24 rfl Try.underlying31 info28 rfl (by decide) (by omega) u7 x7_1 (⟨(rd_T28 l0 x12_1).f0, (rd_T28 l0 x12_1).f1, (rd_T28 l0 x12_1).f2⟩ : S28) [.int .u64 ((rd_T28 l0 x12_1).f0), .int .u64 ((rd_T28 l0 x12_1).f1), .int .u64 ((rd_T28 l0 x12_1).f2)] (fun k_ => some k_ ≠ (u6 : Value).ownBlock ∧ k_ ≠ gb102) (fun _ => False) rfl rfl ?aP (fun _ hk => hk.elim) ?aF ?aO ?aB ?aS ?aL ?_; (case aP => exact k28_mkM _ _ _ (⟨(rd_T28 l0 x12_1).f0, (rd_T28 l0 x12_1).f1, (rd_T28 l0 x12_1).f2⟩ : S28)); (case aB => exact (by repeat (first | (with_reducible first | exact HB.out | apply below_alloc | apply pw_below_drewN | apply below_drew1 | refine below_set ?_ GE102.out) | exact HB.out))); (case aF => exact (fun k_ hk => ⟨Kd.fresh' (Kd.R_lt (by (with_reducible repeat (first | apply Kd.R_alloc | apply Kd.R_drewN | apply Kd.R_drew)); exact HO_6.out)) k_ hk, Kd.freshB (g := gb102) (o := .cells #[.int .u64 ((rd_T28 l0 x12_1).f0), .int .u64 ((rd_T28 l0 x12_1).f1), .int .u64 ((rd_T28 l0 x12_1).f2)] 28 (0, 0)) (by (with_reducible repeat (first | refine blk_drewN ?_ _ | refine blk_drew ?_ | refine blk_alloc ?_ _)); exact BK102.out) k_ hk⟩)); (case aO => exact (by (with_reducible repeat (first | apply Kd.R_alloc | apply Kd.R_drewN | apply Kd.R_drew)); exact HO_7.out)); (case aS => exact (below_size (by repeat (first | (with_reducible first | exact HB.out | apply below_alloc | apply pw_below_drewN | apply below_drew1 | refine below_set ?_ GE102.out) | exact HB.out)))); (case aL => have := LMc14.out; omega); intro v108 w19 ho hb hg hat; rw [← Ny107.out] at ho; have n0_ := Aside0.mk (Kd.R_after (ok := (fun k_ => k_ ≠ gb102)) (by (with_reducible repeat (first | apply Kd.R_alloc | apply Kd.R_drewN | apply Kd.R_drew)); exact Kd.R_mono HO_6.out (fun _ hk => ⟨hk.2, hk.1⟩)) hg hat); have n1_ := Aside0.mk (blk_grown (g := gb102) (o := .cells #[.int .u64 ((rd_T28 l0 x12_1).f0), .int .u64 ((rd_T28 l0 x12_1).f1), .int .u64 ((rd_T28 l0 x12_1).f2)] 28 (0, 0)) (by (with_reducible repeat (first | refine blk_drewN ?_ _ | refine blk_drew ?_ | refine blk_alloc ?_ _)); exact BK102.out) hg (Kd.R_away HO_7.out (fun _ hk => hk.2))); have n2_ := Aside0.mk (hb); have n3_ := Aside0.mk (ho); clear HO_6; clear BK102; clear HB; clear HO_7; have HO_6 := n0_; have BK102 := n1_; have HB := n2_; have HO109 := n3_; clear n0_ n1_ n2_ n3_; clear ho hb hg hat))
                go_roundg k1
                case measure => have := HK1.out; omega
                case rel => exact ⟨(x6_1), (y107), (wrap64 (x12_1 + 1)), (by first | rfl | (simp; done) | (simp [*]; done)), H', ⟨by have := HK1.out; omega⟩, ⟨by (with_reducible repeat (first | apply Kd.R_alloc | apply Kd.R_drewN | apply Kd.R_drew)); exact Kd.R_mono HO_6.out (fun _ hk => hk.2)⟩, ⟨by (with_reducible repeat (first | apply Kd.R_alloc | apply Kd.R_drewN | apply Kd.R_drew)); exact Kd.R_mono HO109.out (fun _ hk => hk.1)⟩, ⟨by repeat (first | (with_reducible first | exact HB.out | apply below_alloc | apply pw_below_drewN | apply below_drew1 | refine below_set ?_ GE102.out) | exact HB.out)⟩⟩
              · rw [if_neg c14] at H
                exact absurd H (by simp)
          · rw [if_neg c5] at H
            exact absurd H (by simp)
        · rw [if_neg c4] at H
          exact absurd H (by simp)
      · rw [if_neg c3] at H
        have c3b0 : decide (x12_1 < (l0.length : Int)) = false := decide_eq_false c3
        clear c3
        simp only [Option.some.injEq, Prod.mk.injEq] at H
        obtain ⟨rfl, rfl⟩ := H
        go_wp2
        go_ret2
        exact ⟨_, _, by first | rfl | (simp [errW_none, errW_some] <;> rfl) | (simp [*, errW_none, errW_some] <;> rfl), by (with_reducible repeat (first | apply Kd.R_alloc | apply Kd.R_drewN | apply Kd.R_drew)); exact HO_6.out, by (with_reducible repeat (first | apply Kd.R_alloc | apply Kd.R_drewN | apply Kd.R_drew)); exact HO_7.out, by repeat (first | (with_reducible first | exact HB.out | apply below_alloc | apply pw_below_drewN | apply below_drew1) | exact HB.out)⟩

/-! ### cover_Split: function 13 -/

def cover_Split.f (k : Nat) (l0 : List (S28)) (l1 : List Int) : Option ((List (S28)) × (List (S28))) := if l1.length ≤ 9223372036854775807 then cover_Entry.f k l0 l1 else none
theorem cover_Split.mono : ∀ a0 a1 k, LeO (cover_Split.f k a0 a1) (cover_Split.f (k + 1) a0 a1) := by
  intro a0 a1 k
  unfold cover_Split.f
  exact LeO.ite (cover_Entry.mono a0 a1 k) (LeO.none _)
set_option maxRecDepth 100000 in
theorem cover_Split.calls (k : Nat) (A0 : Option Addr) (c0 : Nat) (l0 : List (S28)) (A1 : Option Addr) (c1 : Nat) (l1 : List Int) (r1 : List (S28)) (r2 : List (S28)) (w : World) (hr0 : Kd.C k28 w A0 l0.length l0) (hc0 : l0.length ≤ c0) (hr1 : Kd.C (Kd.int .u64) w A1 l1.length l1) (hc1 : l1.length ≤ c1) (h : cover_Split.f k l0 l1 = some (r1, r2)) :
    Calls Try.prog 13 #[.slice A0 l0.length c0, .slice A1 l1.length c1] w fun e w' => ∃ v0_ v1_ : Value, e = .returned (.tuple #[v0_, v1_]) ∧ Kd.R k28 28 w' w.heap.size (fun k_ => some k_ ≠ (v1_ : Value).ownBlock) v0_ r1 ∧ Kd.R k28 28 w' w.heap.size (fun k_ => some k_ ≠ (v0_ : Value).ownBlock) v1_ r2 ∧ Below w.heap.size w w' := by
  unfold cover_Split.f at h
  by_cases hl : l1.length ≤ 9223372036854775807
  · rw [if_pos hl] at h
    have he : Eras (w.alloc (.cells #[.slice A1 l1.length c1] 25)) w.heap.size A1 c1 l1 :=
      ⟨by rw [World.size_alloc]; omega, by (show (w.heap.push _)[w.heap.size]? = _); exact Array.getElem?_push_size, Kd.C_alloc hr1 _⟩
    have hC := cover_Entry.calls k A0 c0 l0 A1 c1 l1 r1 r2 w.heap.size _ (Kd.C_alloc hr0 _) hc0 he hc1 h
    clear hr0 hc0 hr1 hc1 he h hl
    go_enter Try.func13, Try.ntmps13
    go_wp2_with fail
    refine hC.mono ?_
    rintro e w2 ⟨v0, v1, rfl, h0, h1, hb⟩
    have H0 := Lib.hid h0
    have H1 := Lib.hid h1
    have HB := Lib.hid hb
    clear h0 h1 hb
    go_wp2_with fail
    go_ret2
    exact ⟨v0, v1, rfl, Kd.R_lower H0.out (by rw [World.size_alloc]; omega), Kd.R_lower H1.out (by rw [World.size_alloc]; omega), (below_alloc (Below.refl _ _) _).trans (HB.out.mono (by rw [World.size_alloc]; omega))⟩
  · rw [if_neg hl] at h; cases h

/-! ### cover_Oldest: function 18 -/
def cover_Oldest.l0 : Nat → Int → List (S28) → Int → Int → Option (Int × Bool)
  | 0, _, _, _, _ => none
  | k + 1, x4, x14, x15, x16 => if x16 < x15 then (if 0 ≤ x16 then (if x16 < (x14.length : Int) then (cover_Oldest.l0 k (mn x4 ((rd_T28 x14 x16).f1)) x14 x15 (wrap64 (x16 + 1))) else (none)) else (none)) else (some (x4, true))
def cover_Oldest.f (k : Nat) (l0 : List (S28)) : Option (Int × Bool) := if (l0.length : Int) = 0 then (some (0, false)) else (if 0 < (l0.length : Int) then (cover_Oldest.l0 k ((rd_T28 l0 0).f1) l0 (l0.length : Int) 0) else (none))
theorem cover_Oldest.mono_l : ∀ k, (∀ y0 y1 y2 y3, LeO (cover_Oldest.l0 k y0 y1 y2 y3) (cover_Oldest.l0 (k + 1) y0 y1 y2 y3))
  | 0 => fun _ _ _ _ r h => by simp [cover_Oldest.l0] at h
  | k + 1 => by
    have ih0 := cover_Oldest.mono_l k
    · intro y0 y1 y2 y3
      unfold cover_Oldest.l0
      repeat' first
      | (with_reducible exact ih0 _ _ _ _)
      | (with_reducible exact LeO.refl _)
      | (with_reducible exact LeO.none _)
      | (with_reducible refine LeO.ite ?_ ?_)
      | (with_reducible refine LeO.bind ?_ (fun _ => ?_))
      | exact ih0 _ _ _ _
      | exact LeO.none _
      | refine LeO.ite ?_ ?_
      | refine LeO.bind ?_ (fun _ => ?_)
theorem cover_Oldest.mono : ∀ a0 k, LeO (cover_Oldest.f k a0) (cover_Oldest.f (k + 1) a0) := by
  intro a0 k
  have ih0 := cover_Oldest.mono_l k
  unfold cover_Oldest.f
  repeat' first
      | (with_reducible exact ih0 _ _ _ _)
      | (with_reducible exact LeO.refl _)
      | (with_reducible exact LeO.none _)
      | (with_reducible refine LeO.ite ?_ ?_)
      | (with_reducible refine LeO.bind ?_ (fun _ => ?_))
      | exact ih0 _ _ _ _
      | exact LeO.none _
      | refine LeO.ite ?_ ?_
      | refine LeO.bind ?_ (fun _ => ?_)
set_option maxHeartbeats 8000000 in
set_option maxRecDepth 100000 in
theorem cover_Oldest.calls (k : Nat) (A0 : Option Addr) (c0 : Nat) (l0 : List (S28)) (r1 : Int) (r2 : Bool) (w : World) (hr0 : Kd.C k28 w A0 l0.length l0) (hc0 : l0.length ≤ c0) (h : cover_Oldest.f k l0 = some (r1, r2)) :
    Calls Try.prog 18 #[.slice A0 l0.length c0] w fun e w' => e = .returned (.tuple #[.int .u64 r1, .bool r2]) ∧ Below w.heap.size w w' := by
  have hu28 := Try.underlying28
  have HR0 := Aside0.mk hr0
  have HC0 := Aside0.mk hc0
  clear hr0 hc0
  have HB := Aside0.mk (Below.refl w.heap.size w)
  have H : (if (l0.length : Int) = 0 then (some (0, false)) else (if 0 < (l0.length : Int) then (cover_Oldest.l0 k ((rd_T28 l0 0).f1) l0 (l0.length : Int) 0) else (none))) = some (r1, r2) := h
  clear h
  by_cases c2 : (l0.length : Int) = 0
  · rw [if_pos c2] at H
    have c2b0 : ((l0.length : Int) == 0) = true := beq_iff_eq.mpr c2
    have c2b1 : ((l0.length : Int) != 0) = false := bne_eq_false_iff_eq.mpr c2
    clear c2
    simp only [Option.some.injEq, Prod.mk.injEq] at H
    obtain ⟨rfl, rfl⟩ := H
    go_enter Try.func18, Try.ntmps18
    go_wp2
    go_ret2
    exact ⟨by first | rfl | (simp [errW_none, errW_some] <;> rfl) | (simp [*, errW_none, errW_some] <;> rfl), by repeat (first | (with_reducible first | exact HB.out | apply below_alloc | apply pw_below_drewN | apply below_drew1) | exact HB.out)⟩
  · rw [if_neg c2] at H
    have c2b0 : ((l0.length : Int) == 0) = false := beq_eq_false_iff_ne.mpr c2
    have c2b1 : ((l0.length : Int) != 0) = true := bne_iff_ne.mpr c2
    have c2b2 : ¬ (l0 = []) := fun h_ => c2 (by rw [h_]; rfl)
    by_cases c3 : 0 < (l0.length : Int)
    · rw [if_pos c3] at H
      have c3b0 : decide (0 < (l0.length : Int)) = true := decide_eq_true c3
      have c3b1 : decide (0 < l0.length) = true := decide_eq_true (by omega)
      clear c3
      have H' := Aside0.mk H
      clear H
      have p110 : 0 ≤ (0 : Int) := (by omega)
      have q110 : 0 < (l0.length : Int) := of_decide_eq_true (by first | (with_reducible assumption) | assumption)
      obtain ⟨ad110, e110, hx110_0, hx110_1, hx110_2⟩ := at_T28 HR0.out 0 p110 q110
      cases e110
      have qi110 : (0 < l0.length) = True := eq_true (by omega)
      (try rw [show ((0 : Int)).toNat = 0 from rfl] at hx110_0)
      (try rw [show 0 * 3 = 0 from rfl] at hx110_0)
      (try rw [Addr.add_zero'] at hx110_0)
      (try rw [show ((0 : Int)).toNat = 0 from rfl] at hx110_1)
      (try rw [show 0 * 3 = 0 from rfl] at hx110_1)
      (try rw [Addr.add_zero'] at hx110_1)
      (try rw [show ((0 : Int)).toNat = 0 from rfl] at hx110_2)
      (try rw [show 0 * 3 = 0 from rfl] at hx110_2)
      (try rw [Addr.add_zero'] at hx110_2)
      replace p110 := eq_true p110
      replace q110 := eq_true q110
      go_enter Try.func18, Try.ntmps18
      go_wp2
      go_loopg [4, 16] k (fun kq v4 v16 w' => ∃ (x4_1 : Int) (x16_1 : Int), v4 = .int .u64 x4_1 ∧ v16 = .int .i64 x16_1 ∧ Aside0 (cover_Oldest.l0 kq x4_1 l0 (l0.length : Int) x16_1 = some (r1, r2)) ∧ Aside0 (kq ≤ k) ∧ Aside0 (Below w.heap.size w w'))
      case atStart => exact ⟨((rd_T28 l0 0).f1), (0), (by first | rfl | (simp; done) | (simp [*]; done)), (by first | rfl | (simp; done) | (simp [*]; done)), H', ⟨Nat.le_refl _⟩, ⟨by repeat (first | (with_reducible first | exact HB.out | apply below_alloc | apply pw_below_drewN | apply below_drew1) | exact HB.out)⟩⟩
      case round =>
        clear H'
        try clear c1
        try clear p1
        try clear q1
        try clear hx1
        try clear qi1
        try clear c2
        try clear c2b0
        try clear c2b1
        try clear c2b2
        try clear p2
        try clear c3
        try clear c3b0
        try clear c3b1
        try clear hx110_0
        try clear hx110_1
        try clear hx110_2
        try clear p110
        try clear q110
        obtain ⟨x4_1, x16_1, rfl, rfl, HA, HK1, HB⟩ := hrel
        cases gk with
        | zero => exact absurd HA.out (by simp [cover_Oldest.l0])
        | succ k1 =>
          have H := HA.out
          clear HA
          simp only [cover_Oldest.l0] at H
          by_cases c4 : x16_1 < (l0.length : Int)
          · rw [if_pos c4] at H
            have c4b0 : decide (x16_1 < (l0.length : Int)) = true := decide_eq_true c4
            clear c4
            by_cases c5 : 0 ≤ x16_1
            · rw [if_pos c5] at H
              have c5b0 : decide (0 ≤ x16_1) = true := decide_eq_true c5
              clear c5
              by_cases c6 : x16_1 < (l0.length : Int)
              · rw [if_pos c6] at H
                have c6b0 : decide (x16_1 < (l0.length : Int)) = true := decide_eq_true c6
                clear c6
                obtain ⟨ji7, hji7⟩ : ∃ j_ : Int, (mn x4_1 ((rd_T28 l0 x16_1).f1)) = j_ := ⟨_, rfl⟩
                replace H : (cover_Oldest.l0 k1 ji7 l0 (l0.length : Int) (wrap64 (x16_1 + 1))) = some (r1, r2) := by first | (rw [hji7] at H; exact H) | (simp only [hji7] at H ⊢; exact H)
                have hji7_ : (if ((rd_T28 l0 x16_1).f1) < x4_1 then ((rd_T28 l0 x16_1).f1) else x4_1) = ji7 := hji7
                have H' := Aside0.mk H
                clear H
                have p111 : 0 ≤ (x16_1 : Int) := of_decide_eq_true (by first | (with_reducible assumption) | assumption)
                have q111 : x16_1 < (l0.length : Int) := of_decide_eq_true (by first | (with_reducible assumption) | assumption)
                obtain ⟨ad111, e111, hx111_0, hx111_1, hx111_2⟩ := at_T28 HR0.out x16_1 p111 q111
                obtain rfl : ad110 = ad111 := (by injection e111)
                replace hx111_0 := (HB.out.cell (World.block_lt_of_cell? w _ hx111_0)).trans hx111_0
                replace hx111_1 := (HB.out.cell (World.block_lt_of_cell? w _ hx111_1)).trans hx111_1
                replace hx111_2 := (HB.out.cell (World.block_lt_of_cell? w _ hx111_2)).trans hx111_2
                replace p111 := eq_true p111
                replace q111 := eq_true q111
                go_wp2_with (first | ((with_reducible refine gate_dst (N := 6) rfl ?_); refine box_event ?hg (N := 6) ?hd (cs := #[.int .u64 0, .int .u64 0, .int .u64 0]) (t := 28) ?hr ?_; (case hd => rfl); (case hg => rfl); (case hr => first | (go_simp; done) | (go_simp; rfl)); intro gb112 hg w8 hbox hb; have n0_ := Aside0.mk (below_step (by repeat (first | (with_reducible first | exact HB.out | apply below_alloc | apply pw_below_drewN | apply below_drew1) | exact HB.out)) hb); have n1_ := Aside0.mk (hbox); have n2_ := Aside0.mk ((by rw [hg]; exact (below_size (by repeat (first | (with_reducible first | exact HB.out | apply below_alloc | apply pw_below_drewN | apply below_drew1) | exact HB.out))) : w.heap.size ≤ gb112)); have n3_ := Aside0.mk ((by rw [hg]; exact (below_size (by repeat (first | (with_reducible first | exact HB.out | apply below_alloc | apply pw_below_drewN | apply below_drew1) | exact HB.out))) : w.heap.size ≤ gb112)); clear HB; have HB := n0_; have BK112 := n1_; have GW112 := n2_; have GE112 := n3_; clear n0_ n1_ n2_ n3_; clear hb hbox hg; have hcz9_0 : w8.cell? ⟨gb112, 0, none⟩ = some (.int .u64 0) := (blk_cell BK112.out 0).trans rfl; have hcz9_1 : w8.cell? ⟨gb112, 1, none⟩ = some (.int .u64 0) := (blk_cell BK112.out 1).trans rfl; have hcz9_2 : w8.cell? ⟨gb112, 2, none⟩ = some (.int .u64 0) := (blk_cell BK112.out 2).trans rfl; have hfz9_0 := blk_frozen BK112.out 0; have hfz9_1 := blk_frozen BK112.out 1; have hfz9_2 := blk_frozen BK112.out 2))
                go_roundg k1
                case measure => have := HK1.out; omega
                case rel => exact ⟨(ji7), (wrap64 (x16_1 + 1)), (by first | rfl | (simp; done) | (simp only [← hji7] <;> (first | rfl | simp)) | (simp [*]; done)), (by first | rfl | (simp; done) | (simp [*]; done)), H', ⟨by have := HK1.out; omega⟩, ⟨by repeat (first | (with_reducible first | exact HB.out | apply below_alloc | apply pw_below_drewN | apply below_drew1 | refine below_set ?_ GE112.out) | exact HB.out)⟩⟩
              · rw [if_neg c6] at H
                exact absurd H (by simp)
            · rw [if_neg c5] at H
              exact absurd H (by simp)
          · rw [if_neg c4] at H
            have c4b0 : decide (x16_1 < (l0.length : Int)) = false := decide_eq_false c4
            clear c4
            simp only [Option.some.injEq, Prod.mk.injEq] at H
            obtain ⟨rfl, rfl⟩ := H
            go_wp2
            go_ret2
            exact ⟨by first | rfl | (simp [errW_none, errW_some] <;> rfl) | (simp [*, errW_none, errW_some] <;> rfl), by repeat (first | (with_reducible first | exact HB.out | apply below_alloc | apply pw_below_drewN | apply below_drew1) | exact HB.out)⟩
    · rw [if_neg c3] at H
      exact absurd H (by simp)

end Go.Proofs.Ytpppcicbkdafeab.GCover
