/-
Let go of as often as it is taken anew, a slot is out behind as many times as there are generations, and one. No condition.
-/
import Derived.Test.YtpppcicbkdafeaaPSlotEndsx2
namespace Go.Proofs.Ytpppcicbkdafeaa.Pure
open Go.RowKit Go.Proofs.Ytpppcicbkdafeaa.PSlotEnds Go.Proofs.YtpppcicbkdafeaaW.PrintWords Go.Proofs.YtpppcicbkdafeaaW.PrintLast Go.Proofs.YtpppcicbkdafeaaW.PrintMore

theorem wrap_u64 (n : Int) : IntKind.u64.wrap n = n % 18446744073709551616 := by simp [IntKind.wrap, IntKind.bits, IntKind.signed]
theorem wraps_u64 (n : Int) (h₀ : 0 ≤ n) (h₁ : n < 2 ^ 64) : IntKind.u64.wrap n = n := by rw [wrap_u64]; omega
theorem and3 (x : Int) (h₀ : 0 ≤ x) (h₁ : x < 18446744073709551616) : Go.bits .and .u64 x 3 = x % 4 := bits_mask .u64 64 (by decide) wraps_u64 2 (by decide) x h₀ (by omega)
theorem and1 (x : Int) (h₀ : 0 ≤ x) (h₁ : x < 18446744073709551616) : Go.bits .and .u64 x 1 = x % 2 := bits_mask .u64 64 (by decide) wraps_u64 1 (by decide) x h₀ (by omega)
theorem or2 (x y : Int) (hx₀ : 0 ≤ x) (hx : x % 4 = 0) (hx₁ : x < 18446744073709551616) (h₀ : 0 ≤ y) (h₁ : y < 4) : Go.bits .or .u64 x y = x + y :=
  bits_join .u64 64 (by decide) wraps_u64 2 x y hx₀ (by omega) (by omega) h₀ (by omega) (by omega)
theorem or1 (x : Int) (h₀ : 0 ≤ x) (h₁ : x < 18446744073709551616) : Go.bits .or .u64 x 1 = x + 1 - x % 2 := by
  obtain ⟨a, rfl⟩ := Int.eq_ofNat_of_zero_le h₀
  have ha : a < 2 ^ 64 := by omega
  have hb := (bits_nat .u64 64 (by decide) wraps_u64 a 1 ha (by decide)).2
  rw [show ((1 : Int) = ((1 : Nat) : Int)) from rfl, hb]
  have h2 : a ||| 1 = a + 1 - a % 2 := by
    rcases Nat.mod_two_eq_zero_or_one a with h | h
    · have := Nat.two_pow_add_eq_or_of_lt (i := 1) (b := 1) (by decide) (a / 2)
      rw [show (2 ^ 1 * (a / 2)) = a by omega] at this; omega
    · have := Nat.two_pow_add_eq_or_of_lt (i := 1) (b := 1) (by decide) (a / 2)
      rw [show (2 ^ 1 * (a / 2)) = a - 1 by omega] at this
      have e : a - 1 + 1 = a := by omega
      rw [e] at this
      calc a ||| 1 = (a - 1 ||| 1) ||| 1 := by rw [← this]
        _ = a - 1 ||| (1 ||| 1) := by rw [Nat.or_assoc]
        _ = a := by rw [show (1 ||| 1 : Nat) = 1 from rfl, ← this]
        _ = _ := by omega
  rw [h2]; omega
theorem wf64 {n : Int} (h : (Lit.int .i64 n).wf = true) : -9223372036854775808 ≤ n ∧ n ≤ 9223372036854775807 := by
  simpa [Lit.wf, IntKind.min, IntKind.max, IntKind.signed, IntKind.bits] using h
theorem wfu {n : Int} (h : (Lit.int .u64 n).wf = true) : 0 ≤ n ∧ n ≤ 18446744073709551615 := by
  simpa [Lit.wf, IntKind.min, IntKind.max, IntKind.signed, IntKind.bits] using h

theorem alive : stepstonelaw02_alive.f = some true := by decide +kernel
theorem right_yes (a0 a1 : Int) (c1 : 0 ≤ a0) (c2 : a0 ≤ 2) (c3 : 0 ≤ a1) (c4 : a1 ≤ 1073741823) : slot_word_right.f a0 a1 = some true := by
  unfold slot_word_right.f mx mn; congr 1; simp; omega
theorem right_no (a0 a1 : Int) (c : ¬ (0 ≤ a0 ∧ a0 ≤ 2 ∧ 0 ≤ a1 ∧ a1 ≤ 1073741823)) : slot_word_right.f a0 a1 = some false := by
  unfold slot_word_right.f mx mn; congr 1; simp; omega
theorem packed (a0 a1 : Int) (c1 : 0 ≤ a0) (c2 : a0 ≤ 2) (c3 : 0 ≤ a1) (c4 : a1 ≤ 1073741823) : slot_word_packed.f a0 a1 = some (4 * a1 + a0) := by
  have e1 : IntKind.u64.wrap a1 = a1 := by rw [wrap_u64]; omega
  have e2 : IntKind.u64.wrap (a1 * 4) = a1 * 4 := by rw [wrap_u64]; omega
  have e3 : IntKind.u64.wrap a0 = a0 := by rw [wrap_u64]; omega
  unfold slot_word_packed.f
  rw [e1, e2, e3, or2 _ _ (by omega) (by omega) (by omega) (by omega) (by omega), Int.mul_comm]
theorem meta_yes (a0 a1 : Int) (c1 : 0 ≤ a0) (c2 : a0 ≤ 2) (c3 : 0 ≤ a1) (c4 : a1 ≤ 1073741823) : slot_Meta.f a0 a1 = some (4 * a1 + a0, true) := by
  unfold slot_Meta.f; rw [right_yes a0 a1 c1 c2 c3 c4, packed a0 a1 c1 c2 c3 c4]; rfl
theorem meta_no (a0 a1 : Int) (c : ¬ (0 ≤ a0 ∧ a0 ≤ 2 ∧ 0 ≤ a1 ∧ a1 ≤ 1073741823)) : slot_Meta.f a0 a1 = some (0, false) := by
  unfold slot_Meta.f; rw [right_no a0 a1 c]; rfl
theorem state_of (a0 a1 : Int) (c1 : 0 ≤ a0) (c2 : a0 ≤ 2) (c3 : 0 ≤ a1) (c4 : a1 ≤ 1073741823) : slot_State.f (4 * a1 + a0) = some a0 := by
  unfold slot_State.f; rw [and3 _ (by omega) (by omega)]; unfold wrap64; congr 1; omega
theorem gen_of (a0 a1 : Int) (c1 : 0 ≤ a0) (c2 : a0 ≤ 2) (c3 : 0 ≤ a1) (c4 : a1 ≤ 1073741823) : slot_Gen.f (4 * a1 + a0) = some a1 := by
  have e : (4 * a1 + a0) / 4 = a1 := by omega
  unfold slot_Gen.f mn wrap64; rw [e, if_neg (by omega)]; congr 1; omega
theorem after_out (g l : Int) (c1 : 0 ≤ l) (c2 : l ≤ 1073741823) (c3 : l ≤ g) : slot_After.f g l = some (4 * l + 2) := by
  have e1 : mx 0 (mn l 1073741823) = l := by unfold mx mn; split <;> split <;> omega
  have e2 : mx g 0 = g := by unfold mx; split <;> omega
  unfold slot_After.f; rw [e1, e2, if_pos c3, packed _ _ (by omega) (by omega) c1 c2]; rfl
theorem after_free (g l : Int) (c1 : 0 ≤ g) (c2 : l ≤ 1073741823) (c3 : g < l) : slot_After.f g l = some (4 * (g + 1)) := by
  have e1 : mx 0 (mn l 1073741823) = l := by unfold mx mn; split <;> split <;> omega
  have e2 : mx g 0 = g := by unfold mx; split <;> omega
  have e3 : wrap64 (g + 1) = g + 1 := by unfold wrap64; omega
  unfold slot_After.f; rw [e1, e2, if_neg (by omega), e3, packed _ _ (by omega) (by omega) (by omega) (by omega)]; simp

theorem at_end (n : Nat) (last i hi : Int) (x : Int) (hlt : ¬ i < hi) (h1 : slot_State.f x = some 2) (h2 : slot_Gen.f x = some last) : stepstonelaw02_SlotEnds.l0 (n + 1) last x hi i = some true := by
  simp only [stepstonelaw02_SlotEnds.l0]
  rw [if_neg hlt, alive, Option.bind_some, if_pos rfl, h1, Option.bind_some, if_pos rfl, h2, Option.bind_some, beq_self_eq_true]
theorem at_round (n : Nat) (last i hi x y : Int) (hlt : i < hi) (h1 : slot_State.f x = some 0) (h2 : slot_Gen.f x = some i) (h3 : slot_After.f i last = some y) :
    stepstonelaw02_SlotEnds.l0 (n + 1 + 1) last x hi i = stepstonelaw02_SlotEnds.l0 n last y hi (wrap64 (i + 1)) := by
  have hj : stepstonelaw02_SlotEnds.j2 (n + 1) last x hi i false = stepstonelaw02_SlotEnds.l0 n last y hi (wrap64 (i + 1)) := by
    simp only [stepstonelaw02_SlotEnds.j2]
    rw [if_neg Bool.false_ne_true, h2, Option.bind_some, h3, Option.bind_some]
  rw [← hj]
  simp only [stepstonelaw02_SlotEnds.l0]
  rw [if_pos hlt, h1, Option.bind_some, if_pos rfl, h2, Option.bind_some, bne_self_eq_false]
theorem round (last : Int) (h0 : 0 ≤ last) (h1 : last ≤ 200) (d : Nat) : ∀ (n : Nat) (i : Int), 0 ≤ i → i ≤ last → last - i = d → 2 * d + 3 ≤ n →
    stepstonelaw02_SlotEnds.l0 n last (4 * i) (last + 1) i = some true := by
  induction d with
  | zero =>
    intro n i a b hd hn
    obtain ⟨n, rfl⟩ : ∃ m, n = m + 1 + 1 + 1 := ⟨n - 3, by omega⟩
    obtain rfl : i = last := by omega
    have s0 := state_of 0 i (by omega) (by omega) h0 (by omega)
    have g0 := gen_of 0 i (by omega) (by omega) h0 (by omega)
    have s2 := state_of 2 i (by omega) (by omega) h0 (by omega)
    have g2 := gen_of 2 i (by omega) (by omega) h0 (by omega)
    rw [Int.add_zero] at s0 g0
    have e : wrap64 (i + 1) = i + 1 := by unfold wrap64; omega
    rw [at_round (n + 1) i i (i + 1) (4 * i) (4 * i + 2) (by omega) s0 g0 (after_out i i h0 (by omega) (by omega)), e]
    exact at_end n i (i + 1) (i + 1) (4 * i + 2) (by omega) s2 g2
  | succ d ih =>
    intro n i a b hd hn
    obtain ⟨n, rfl⟩ : ∃ m, n = m + 1 + 1 := ⟨n - 2, by omega⟩
    have s0 := state_of 0 i (by omega) (by omega) a (by omega)
    have g0 := gen_of 0 i (by omega) (by omega) a (by omega)
    rw [Int.add_zero] at s0 g0
    have e : wrap64 (i + 1) = i + 1 := by unfold wrap64; omega
    rw [at_round n last i (last + 1) (4 * i) (4 * (i + 1)) (by omega) s0 g0 (after_free i last a (by omega) (by omega)), e]
    exact ih n (i + 1) (by omega) (by omega) (by omega) (by omega)

theorem SlotEnds : stepstonelaw02_SlotEnds.Pure := by
  intro last _
  refine ⟨1000, ?_⟩
  have e : wrap64 (last + 1) = last + 1 ∨ ¬ (0 ≤ last ∧ last ≤ 200) := by unfold wrap64; omega
  have a : ∀ m x, stepstonelaw02_SlotEnds.j0 (m + 1) x true = some true := by
    intro m x; simp only [stepstonelaw02_SlotEnds.j0, if_true]; rw [alive]; rfl
  unfold stepstonelaw02_SlotEnds.f
  by_cases c : last < 0
  · rw [if_pos c]; exact a 999 _
  · rw [if_neg c]
    by_cases c2 : last > 200
    · rw [decide_eq_true c2]; exact a 999 _
    · rw [decide_eq_false c2]
      have := round last (by omega) (by omega) last.toNat 999 0 (by omega) (by omega) (by omega) (by omega)
      show stepstonelaw02_SlotEnds.j0 (999 + 1) last false = some true
      simp only [stepstonelaw02_SlotEnds.j0]; rw [if_neg Bool.false_ne_true, e.resolve_right (by omega)]
      exact this

end Go.Proofs.Ytpppcicbkdafeaa.Pure
