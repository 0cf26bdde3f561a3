/-
The word of any state and generation, or that there is none, is what the document says, and its parts are these. No condition.
-/
import Derived.Test.YtpppcicbkdafeaaPSlotMetasx2
namespace Go.Proofs.Ytpppcicbkdafeaa.Pure
open Go.RowKit Go.Proofs.Ytpppcicbkdafeaa.PSlotMetas Go.Proofs.YtpppcicbkdafeaaW.PrintWords Go.Proofs.YtpppcicbkdafeaaW.PrintLast Go.Proofs.YtpppcicbkdafeaaW.PrintMore

theorem wrap_u64 (n : Int) : IntKind.u64.wrap n = n % 18446744073709551616 := by simp [IntKind.wrap, IntKind.bits, IntKind.signed]
theorem wraps_u64 (n : Int) (h₀ : 0 ≤ n) (h₁ : n < 2 ^ 64) : IntKind.u64.wrap n = n := by rw [wrap_u64]; omega
theorem and3 (x : Int) (h₀ : 0 ≤ x) (h₁ : x < 18446744073709551616) : Go.bits .and .u64 x 3 = x % 4 := bits_mask .u64 64 (by decide) wraps_u64 2 (by decide) x h₀ (by omega)
theorem and1 (x : Int) (h₀ : 0 ≤ x) (h₁ : x < 18446744073709551616) : Go.bits .and .u64 x 1 = x % 2 := bits_mask .u64 64 (by decide) wraps_u64 1 (by decide) x h₀ (by omega)
theorem or2 (x y : Int) (hx₀ : 0 ≤ x) (hx : x % 4 = 0) (hx₁ : x < 18446744073709551616) (h₀ : 0 ≤ y) (h₁ : y < 4) : Go.bits .or .u64 x y = x + y :=
  bits_join .u64 64 (by decide) wraps_u64 2 x y hx₀ (by omega) (by omega) h₀ (by omega) (by omega)
theorem or1 (x : Int) (h₀ : 0 ≤ x) (h₁ : x < 18446744073709551616) : Go.bits .or .u64 x 1 = x + 1 - x % 2 := by
  obtain ⟨a, rfl⟩ := Int.eq_ofNat_of_zero_le h₀
  have ha : a < 2 ^ 64 := by omega
  have hb := (bits_nat .u64 64 (by decide) wraps_u64 a 1 ha (by decide)).2
  rw [show ((1 : Int) = ((1 : Nat) : Int)) from rfl, hb]
  have h2 : a ||| 1 = a + 1 - a % 2 := by
    rcases Nat.mod_two_eq_zero_or_one a with h | h
    · have := Nat.two_pow_add_eq_or_of_lt (i := 1) (b := 1) (by decide) (a / 2)
      rw [show (2 ^ 1 * (a / 2)) = a by omega] at this; omega
    · have := Nat.two_pow_add_eq_or_of_lt (i := 1) (b := 1) (by decide) (a / 2)
      rw [show (2 ^ 1 * (a / 2)) = a - 1 by omega] at this
      have e : a - 1 + 1 = a := by omega
      rw [e] at this
      calc a ||| 1 = (a - 1 ||| 1) ||| 1 := by rw [← this]
        _ = a - 1 ||| (1 ||| 1) := by rw [Nat.or_assoc]
        _ = a := by rw [show (1 ||| 1 : Nat) = 1 from rfl, ← this]
        _ = _ := by omega
  rw [h2]; omega
theorem wf64 {n : Int} (h : (Lit.int .i64 n).wf = true) : -9223372036854775808 ≤ n ∧ n ≤ 9223372036854775807 := by
  simpa [Lit.wf, IntKind.min, IntKind.max, IntKind.signed, IntKind.bits] using h
theorem wfu {n : Int} (h : (Lit.int .u64 n).wf = true) : 0 ≤ n ∧ n ≤ 18446744073709551615 := by
  simpa [Lit.wf, IntKind.min, IntKind.max, IntKind.signed, IntKind.bits] using h

theorem alive : stepstonelaw02_alive.f = some true := by decide +kernel
theorem right_yes (a0 a1 : Int) (c1 : 0 ≤ a0) (c2 : a0 ≤ 2) (c3 : 0 ≤ a1) (c4 : a1 ≤ 1073741823) : slot_word_right.f a0 a1 = some true := by
  unfold slot_word_right.f mx mn; congr 1; simp; omega
theorem right_no (a0 a1 : Int) (c : ¬ (0 ≤ a0 ∧ a0 ≤ 2 ∧ 0 ≤ a1 ∧ a1 ≤ 1073741823)) : slot_word_right.f a0 a1 = some false := by
  unfold slot_word_right.f mx mn; congr 1; simp; omega
theorem packed (a0 a1 : Int) (c1 : 0 ≤ a0) (c2 : a0 ≤ 2) (c3 : 0 ≤ a1) (c4 : a1 ≤ 1073741823) : slot_word_packed.f a0 a1 = some (4 * a1 + a0) := by
  have e1 : IntKind.u64.wrap a1 = a1 := by rw [wrap_u64]; omega
  have e2 : IntKind.u64.wrap (a1 * 4) = a1 * 4 := by rw [wrap_u64]; omega
  have e3 : IntKind.u64.wrap a0 = a0 := by rw [wrap_u64]; omega
  unfold slot_word_packed.f
  rw [e1, e2, e3, or2 _ _ (by omega) (by omega) (by omega) (by omega) (by omega), Int.mul_comm]
theorem meta_yes (a0 a1 : Int) (c1 : 0 ≤ a0) (c2 : a0 ≤ 2) (c3 : 0 ≤ a1) (c4 : a1 ≤ 1073741823) : slot_Meta.f a0 a1 = some (4 * a1 + a0, true) := by
  unfold slot_Meta.f; rw [right_yes a0 a1 c1 c2 c3 c4, packed a0 a1 c1 c2 c3 c4]; rfl
theorem meta_no (a0 a1 : Int) (c : ¬ (0 ≤ a0 ∧ a0 ≤ 2 ∧ 0 ≤ a1 ∧ a1 ≤ 1073741823)) : slot_Meta.f a0 a1 = some (0, false) := by
  unfold slot_Meta.f; rw [right_no a0 a1 c]; rfl
theorem state_of (a0 a1 : Int) (c1 : 0 ≤ a0) (c2 : a0 ≤ 2) (c3 : 0 ≤ a1) (c4 : a1 ≤ 1073741823) : slot_State.f (4 * a1 + a0) = some a0 := by
  unfold slot_State.f; rw [and3 _ (by omega) (by omega)]; unfold wrap64; congr 1; omega
theorem gen_of (a0 a1 : Int) (c1 : 0 ≤ a0) (c2 : a0 ≤ 2) (c3 : 0 ≤ a1) (c4 : a1 ≤ 1073741823) : slot_Gen.f (4 * a1 + a0) = some a1 := by
  have e : (4 * a1 + a0) / 4 = a1 := by omega
  unfold slot_Gen.f mn wrap64; rw [e, if_neg (by omega)]; congr 1; omega
theorem after_out (g l : Int) (c1 : 0 ≤ l) (c2 : l ≤ 1073741823) (c3 : l ≤ g) : slot_After.f g l = some (4 * l + 2) := by
  have e1 : mx 0 (mn l 1073741823) = l := by unfold mx mn; split <;> split <;> omega
  have e2 : mx g 0 = g := by unfold mx; split <;> omega
  unfold slot_After.f; rw [e1, e2, if_pos c3, packed _ _ (by omega) (by omega) c1 c2]; rfl
theorem after_free (g l : Int) (c1 : 0 ≤ g) (c2 : l ≤ 1073741823) (c3 : g < l) : slot_After.f g l = some (4 * (g + 1)) := by
  have e1 : mx 0 (mn l 1073741823) = l := by unfold mx mn; split <;> split <;> omega
  have e2 : mx g 0 = g := by unfold mx; split <;> omega
  have e3 : wrap64 (g + 1) = g + 1 := by unfold wrap64; omega
  unfold slot_After.f; rw [e1, e2, if_neg (by omega), e3, packed _ _ (by omega) (by omega) (by omega) (by omega)]; simp

theorem ref_yes (a0 a1 : Int) (c1 : 0 ≤ a0) (c2 : a0 ≤ 2) (c3 : 0 ≤ a1) (c4 : a1 ≤ 1073741823) : stepstoneref02_Meta.f a0 a1 = some (4 * a1 + a0, true) := by
  have e1 : wrap64 (4 * a1) = 4 * a1 := by unfold wrap64; omega
  have e2 : wrap64 (4 * a1 + a0) = 4 * a1 + a0 := by unfold wrap64; omega
  have e3 : IntKind.u64.wrap (4 * a1 + a0) = 4 * a1 + a0 := by rw [wrap_u64]; omega
  unfold stepstoneref02_Meta.f
  rw [e1, e2, e3, if_neg (by omega), if_neg (by omega), if_neg (by omega), if_neg (by omega)]
theorem ref_no (a0 a1 : Int) (c : ¬ (0 ≤ a0 ∧ a0 ≤ 2 ∧ 0 ≤ a1 ∧ a1 ≤ 1073741823)) : stepstoneref02_Meta.f a0 a1 = some (0, false) := by
  unfold stepstoneref02_Meta.f
  by_cases d1 : a0 < 0
  · rw [if_pos d1]
  by_cases d2 : a0 > 2
  · rw [if_neg d1, if_pos d2]
  by_cases d3 : a1 < 0
  · rw [if_neg d1, if_neg d2, if_pos d3]
  rw [if_neg d1, if_neg d2, if_neg d3, if_pos (by omega)]

theorem SlotMetas : stepstonelaw02_SlotMetas.Pure := by
  intro a0 a1 _ _
  unfold stepstonelaw02_SlotMetas.f
  rw [alive]
  by_cases c : 0 ≤ a0 ∧ a0 ≤ 2 ∧ 0 ≤ a1 ∧ a1 ≤ 1073741823
  · obtain ⟨c1, c2, c3, c4⟩ := c
    rw [meta_yes a0 a1 c1 c2 c3 c4, ref_yes a0 a1 c1 c2 c3 c4]
    simp [state_of a0 a1 c1 c2 c3 c4, gen_of a0 a1 c1 c2 c3 c4]
  · rw [meta_no a0 a1 c, ref_no a0 a1 c]; rfl

end Go.Proofs.Ytpppcicbkdafeaa.Pure
