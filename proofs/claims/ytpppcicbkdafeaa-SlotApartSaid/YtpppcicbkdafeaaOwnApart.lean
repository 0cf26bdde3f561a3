/-
Two slots' words are the same just if state and generation are; two values' just if the values are. No condition.
-/
import Derived.Test.YtpppcicbkdafeaaPSlotPartsx2
import Derived.Test.YtpppcicbkdafeaaPureSlotParts
import Derived.Lib.Hide
import Derived.BigQuiet
import Derived.Laws.StructEq
import Derived.Laws.Rows
namespace Go.Proofs.Ytpppcicbkdafeaa.OwnApart
open Go.RowKit Go.Proofs.Ytpppcicbkdafeaa.PSlotParts Go.Proofs.Ytpppcicbkdafeaa.Pure Go.Proofs.YtpppcicbkdafeaaW.PrintWords Go.Proofs.YtpppcicbkdafeaaW.PrintLast Go.Proofs.YtpppcicbkdafeaaW.PrintMore

theorem below_of_drewN {w w' : World} {n : Nat} (h : Below (w.drewN n).heap.size (w.drewN n) w') : Below w.heap.size w w' := (pw_below_drewN (Below.refl _ _) n).trans h
theorem alive_calls (w : World) : Calls Try.prog 11 #[] w fun e w' => e = .returned (.bool true) ∧ Below w.heap.size w w' :=
  stepstonelaw02_alive.calls true w alive
theorem size3 (w : World) : (sizeOf 3).run Try.prog w = .ok 1 w := by kernel_rfl
theorem eq_arr (w : World) (a0 a1 b0 b1 : Int) : (Op.equalIn 10000 32 (.agg #[.int .i64 a0, .int .i64 a1]) (.agg #[.int .i64 b0, .int .i64 b1])).run Try.prog w = .ok (a0 == b0 && a1 == b1) w := by
  have r : List.range' 0 2 1 = [0, 1] := rfl
  have e0 := run_equalIn_int (P := Try.prog) w 9998 3 .i64 .i64 a0 b0 Try.underlying3
  have e1 := run_equalIn_int (P := Try.prog) w 9998 3 .i64 .i64 a1 b1 Try.underlying3
  rw [show (10000 : Nat) = 9998 + 2 from rfl, Op.equalIn]
  simp only [Sem.run_bind, run_underlying Try.underlying32, Result.andThen_ok, size3, Std.Legacy.Range.forIn_eq_forIn_range', Std.Legacy.Range.size, Nat.sub_zero, Nat.add_sub_cancel, Nat.div_one, r]
  have p0 : ∀ x y : Int, (part 3 #[.int .i64 x, .int .i64 y] (0 * 1)).run Try.prog w = .ok (.int .i64 x) w := fun x y => by
    simp [part, isAgg, run_underlying Try.underlying3]
  have p1 : ∀ x y : Int, (part 3 #[.int .i64 x, .int .i64 y] (1 * 1)).run Try.prog w = .ok (.int .i64 y) w := fun x y => by
    simp [part, isAgg, run_underlying Try.underlying3]
  rw [show (1 * 1 : Nat) = 1 from rfl] at p1
  simp only [List.forIn_cons, List.forIn_nil, Sem.run_bind, p0, e0, Result.andThen_ok, Nat.one_mul]
  cases h0 : (a0 == b0)
  · simp
  · simp only [Bool.not_true, Bool.false_eq_true, if_false, Sem.run_pure, Sem.run_bind, Result.andThen_ok, p1, e1]
    cases h1 : (a1 == b1) <;> simp

/-- Block k holds these two cells. -/
def Holds (w : World) (k : Nat) (a b : Value) (t : TypeId) : Prop := k < w.heap.size ∧ w.heap[k]? = some (.cells #[a, b] t (0, 0))
theorem Holds.to {w w' : World} {k : Nat} {a b : Value} {t : TypeId} (h : Holds w k a b t) (hb : Below w.heap.size w w') : Holds w' k a b t :=
  ⟨Nat.lt_of_lt_of_le h.1 hb.size, (hb.block k h.1).trans h.2⟩
theorem Holds.drew {w : World} {k : Nat} {a b : Value} {t : TypeId} (h : Holds w k a b t) (n : Nat) : Holds (w.drewN n) k a b t := h
theorem Holds.c0 {w : World} {k : Nat} {a b : Value} {t : TypeId} (h : Holds w k a b t) : w.cell? ⟨k, 0, none⟩ = some a := by rw [cell_of_row _ _ _ _ _ _ h.2]; rfl
theorem Holds.c1 {w : World} {k : Nat} {a b : Value} {t : TypeId} (h : Holds w k a b t) : w.cell? ⟨k, 1, none⟩ = some b := by rw [cell_of_row _ _ _ _ _ _ h.2]; rfl
theorem below_and {w w1 w2 : World} (h : Below w.heap.size w w1) (k : Below w1.heap.size w1 w2) : Below w.heap.size w w2 := h.trans (k.mono h.size)

theorem new_block (w : World) (o : Obj) : (w.alloc o).heap[w.heap.size]? = some o := by
  show (w.heap.push o)[w.heap.size]? = some o
  exact Array.getElem?_push_size
def W3 (w : World) (a0 a1 b0 b1 u v : Int) : World := ((w.alloc (.cells #[.int .i64 a0, .int .i64 a1] 32)).alloc (.cells #[.int .i64 b0, .int .i64 b1] 32)).alloc (.cells #[.int .u64 u, .int .u64 v] 33)
theorem W3_a (w : World) (a0 a1 b0 b1 u v : Int) : Holds (W3 w a0 a1 b0 b1 u v) w.heap.size (.int .i64 a0) (.int .i64 a1) 32 := by
  unfold W3
  refine ⟨by rw [World.size_alloc, World.size_alloc, World.size_alloc]; omega, ?_⟩
  rw [Below.heap_alloc _ _ _ (by rw [World.size_alloc, World.size_alloc]; omega), Below.heap_alloc _ _ _ (by rw [World.size_alloc]; omega)]
  exact new_block _ _
theorem W3_b (w : World) (a0 a1 b0 b1 u v : Int) : Holds (W3 w a0 a1 b0 b1 u v) (w.heap.size + 1) (.int .i64 b0) (.int .i64 b1) 32 := by
  unfold W3
  refine ⟨by rw [World.size_alloc, World.size_alloc, World.size_alloc]; omega, ?_⟩
  rw [Below.heap_alloc _ _ _ (by rw [World.size_alloc, World.size_alloc]; omega), ← World.size_alloc w (.cells #[.int .i64 a0, .int .i64 a1] 32)]
  exact new_block _ _
theorem W3_below (w : World) (a0 a1 b0 b1 u v : Int) : Below w.heap.size w (W3 w a0 a1 b0 b1 u v) := below_alloc (below_alloc (below_alloc (Below.refl _ _) _) _) _

theorem to1 {w : World} {a0 a1 b0 b1 u v : Int} {n : Nat} {w1 : World} (hb : Below ((W3 w a0 a1 b0 b1 u v).drewN n).heap.size ((W3 w a0 a1 b0 b1 u v).drewN n) w1) :
    Holds w1 w.heap.size (.int .i64 a0) (.int .i64 a1) 32 ∧ Holds w1 (w.heap.size + 1) (.int .i64 b0) (.int .i64 b1) 32 ∧ Below w.heap.size w w1 :=
  ⟨(W3_a w a0 a1 b0 b1 u v).to (below_of_drewN hb), (W3_b w a0 a1 b0 b1 u v).to (below_of_drewN hb), below_and (W3_below w a0 a1 b0 b1 u v) (below_of_drewN hb)⟩

set_option maxHeartbeats 4000000 in
set_option maxRecDepth 100000 in
theorem walk1 (a0 a1 b0 b1 u v x y p q : Int) (is was may might eqa : Bool) (w : World) (h1 : slot_Meta.f a0 a1 = some (x, is)) (h2 : slot_Meta.f b0 b1 = some (y, was)) (h3 : slot_Value.f u = some (p, may)) (h4 : slot_Value.f v = some (q, might))
    (hq : ∀ w, (Op.equalIn 10000 32 (.agg #[.int .i64 a0, .int .i64 a1]) (.agg #[.int .i64 b0, .int .i64 b1])).run Try.prog w = .ok eqa w)
    (g1 : is = false ∨ (is = true ∧ was = false) ∨ (is = true ∧ was = true ∧ ((x == y) == eqa) = true)) (g2 : may = false ∨ (may = true ∧ might = false) ∨ (may = true ∧ might = true ∧ ((p == q) == (u == v)) = true)) :
    Calls Try.prog 7 #[.agg #[.int .i64 a0, .int .i64 a1], .agg #[.int .i64 b0, .int .i64 b1], .agg #[.int .u64 u, .int .u64 v]] w fun e w' => e = .returned (.bool true) ∧ Below w.heap.size w w' := by
  have H1 := Lib.hid h1
  have H2 := Lib.hid h2
  have H3 := Lib.hid h3
  have H4 := Lib.hid h4
  clear h1 h2 h3 h4
  rcases g1 with rfl | ⟨rfl, rfl⟩ | ⟨rfl, rfl, g1⟩ <;> rcases g2 with rfl | ⟨rfl, rfl⟩ | ⟨rfl, rfl, g2⟩
  all_goals
    go_enter Try.func7, Try.ntmps7
    go_wp2_with fail
    go_quiet (fail)
    go_wp2_with fail
    refine (slot_Meta.calls a0 a1 x _ _ H1.out).mono ?_
    rintro e w1 ⟨rfl, hb1⟩
    obtain ⟨A1, B1, L1⟩ := to1 hb1
    clear hb1
    have c0 := B1.c0
    have c1 := B1.c1
    have A1 := Lib.hid A1
    have B1 := Lib.hid B1
    have L1 := Lib.hid L1
    go_wp2_with fail
    refine (slot_Meta.calls b0 b1 y _ _ H2.out).mono ?_
    rintro e w2 ⟨rfl, hb2⟩
    clear c0 c1
    have A2 := Lib.hid (A1.out.to hb2)
    have B2 := Lib.hid (B1.out.to hb2)
    have L2 := Lib.hid (below_and L1.out hb2)
    clear hb2 A1 B1 L1
    go_wp2_with fail
    refine (slot_Value.calls u p _ _ H3.out).mono ?_
    rintro e w' ⟨rfl, ⟨n, rfl⟩⟩
    go_wp2_with fail
    refine (slot_Value.calls v q _ _ H4.out).mono ?_
    rintro e w' ⟨rfl, ⟨n, rfl⟩⟩
    go_wp2_with fail
    refine (alive_calls _).mono ?_
    rintro e w3 ⟨rfl, hb3⟩
    have hb3 := below_of_drewN hb3
    have A3 := Lib.hid (A2.out.to hb3)
    have B3 := Lib.hid (B2.out.to hb3)
    have L3 := Lib.hid (below_and L2.out hb3)
    clear hb3 A2 B2 L2
    have a0' := A3.out.c0
    have a1' := A3.out.c1
    have b0' := B3.out.c0
    have b1' := B3.out.c1
    go_wp2_with fail
    go_ret
    exact ⟨rfl, L3.out⟩

theorem meta_inj {a0 a1 b0 b1 x y : Int} (h1 : slot_Meta.f a0 a1 = some (x, true)) (h2 : slot_Meta.f b0 b1 = some (y, true)) : ((x == y) == (a0 == b0 && a1 == b1)) = true := by
  by_cases c : 0 ≤ a0 ∧ a0 ≤ 2 ∧ 0 ≤ a1 ∧ a1 ≤ 1073741823
  · by_cases d : 0 ≤ b0 ∧ b0 ≤ 2 ∧ 0 ≤ b1 ∧ b1 ≤ 1073741823
    · rw [meta_yes a0 a1 c.1 c.2.1 c.2.2.1 c.2.2.2] at h1
      rw [meta_yes b0 b1 d.1 d.2.1 d.2.2.1 d.2.2.2] at h2
      simp only [Option.some.injEq, Prod.mk.injEq, and_true] at h1 h2
      subst h1 h2
      rw [beq_iff_eq, Bool.eq_iff_iff, Bool.and_eq_true, beq_iff_eq, beq_iff_eq, beq_iff_eq]
      omega
    · rw [meta_no b0 b1 d] at h2; simp at h2
  · rw [meta_no a0 a1 c] at h1; simp at h1
theorem meta_some (a0 a1 : Int) : ∃ x is, slot_Meta.f a0 a1 = some (x, is) := by
  by_cases c : 0 ≤ a0 ∧ a0 ≤ 2 ∧ 0 ≤ a1 ∧ a1 ≤ 1073741823
  · exact ⟨_, _, meta_yes a0 a1 c.1 c.2.1 c.2.2.1 c.2.2.2⟩
  · exact ⟨_, _, meta_no a0 a1 c⟩
theorem value_some (u : Int) (h0 : 0 ≤ u) : (slot_Value.f u = some (u * 2, true) ∧ u ≤ 9223372036854775807) ∨ slot_Value.f u = some (0, false) := by
  unfold slot_Value.f
  by_cases c : u > 9223372036854775807
  · rw [if_pos c]; exact .inr rfl
  · rw [if_neg c, wrap_u64, Int.emod_eq_of_lt (by omega) (by omega)]; exact .inl ⟨rfl, by omega⟩
theorem value_inj (u v : Int) : ((u * 2 == v * 2) == (u == v)) = true := by
  rw [beq_iff_eq, Bool.eq_iff_iff, beq_iff_eq, beq_iff_eq]; omega
theorem parts (is was e : Bool) (h : is = true → was = true → e = true) : is = false ∨ (is = true ∧ was = false) ∨ (is = true ∧ was = true ∧ e = true) := by
  cases is <;> cases was <;> simp_all

theorem walk (a0 a1 b0 b1 u v : Int) (w : World) (hu : 0 ≤ u) (hv : 0 ≤ v) :
    Calls Try.prog 7 #[.agg #[.int .i64 a0, .int .i64 a1], .agg #[.int .i64 b0, .int .i64 b1], .agg #[.int .u64 u, .int .u64 v]] w fun e w' => e = .returned (.bool true) ∧ Below w.heap.size w w' := by
  obtain ⟨x, is, h1⟩ := meta_some a0 a1
  obtain ⟨y, was, h2⟩ := meta_some b0 b1
  have g1 := parts is was ((x == y) == (a0 == b0 && a1 == b1)) (fun e1 e2 => meta_inj (e1 ▸ h1) (e2 ▸ h2))
  have hq := fun w => eq_arr w a0 a1 b0 b1
  rcases value_some u hu with ⟨h3, _⟩ | h3
  · rcases value_some v hv with ⟨h4, _⟩ | h4
    · exact walk1 a0 a1 b0 b1 u v x y _ _ is was _ _ _ w h1 h2 h3 h4 hq g1 (.inr (.inr ⟨rfl, rfl, value_inj u v⟩))
    · exact walk1 a0 a1 b0 b1 u v x y _ _ is was _ _ _ w h1 h2 h3 h4 hq g1 (.inr (.inl ⟨rfl, rfl⟩))
  · rcases value_some v hv with ⟨h4, _⟩ | h4
    · exact walk1 a0 a1 b0 b1 u v x y _ _ is was _ _ _ w h1 h2 h3 h4 hq g1 (.inl rfl)
    · exact walk1 a0 a1 b0 b1 u v x y _ _ is was _ _ _ w h1 h2 h3 h4 hq g1 (.inl rfl)

end Go.Proofs.Ytpppcicbkdafeaa.OwnApart
