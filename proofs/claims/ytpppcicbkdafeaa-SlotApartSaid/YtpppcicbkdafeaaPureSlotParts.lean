/-
The parts of any word are what the document says. No condition.
-/
import Derived.Test.YtpppcicbkdafeaaPSlotPartsx2
namespace Go.Proofs.Ytpppcicbkdafeaa.Pure
open Go.RowKit Go.Proofs.Ytpppcicbkdafeaa.PSlotParts Go.Proofs.YtpppcicbkdafeaaW.PrintWords Go.Proofs.YtpppcicbkdafeaaW.PrintLast Go.Proofs.YtpppcicbkdafeaaW.PrintMore

theorem wrap_u64 (n : Int) : IntKind.u64.wrap n = n % 18446744073709551616 := by simp [IntKind.wrap, IntKind.bits, IntKind.signed]
theorem wraps_u64 (n : Int) (h₀ : 0 ≤ n) (h₁ : n < 2 ^ 64) : IntKind.u64.wrap n = n := by rw [wrap_u64]; omega
theorem and3 (x : Int) (h₀ : 0 ≤ x) (h₁ : x < 18446744073709551616) : Go.bits .and .u64 x 3 = x % 4 := bits_mask .u64 64 (by decide) wraps_u64 2 (by decide) x h₀ (by omega)
theorem and1 (x : Int) (h₀ : 0 ≤ x) (h₁ : x < 18446744073709551616) : Go.bits .and .u64 x 1 = x % 2 := bits_mask .u64 64 (by decide) wraps_u64 1 (by decide) x h₀ (by omega)
theorem or2 (x y : Int) (hx₀ : 0 ≤ x) (hx : x % 4 = 0) (hx₁ : x < 18446744073709551616) (h₀ : 0 ≤ y) (h₁ : y < 4) : Go.bits .or .u64 x y = x + y :=
  bits_join .u64 64 (by decide) wraps_u64 2 x y hx₀ (by omega) (by omega) h₀ (by omega) (by omega)
theorem or1 (x : Int) (h₀ : 0 ≤ x) (h₁ : x < 18446744073709551616) : Go.bits .or .u64 x 1 = x + 1 - x % 2 := by
  obtain ⟨a, rfl⟩ := Int.eq_ofNat_of_zero_le h₀
  have ha : a < 2 ^ 64 := by omega
  have hb := (bits_nat .u64 64 (by decide) wraps_u64 a 1 ha (by decide)).2
  rw [show ((1 : Int) = ((1 : Nat) : Int)) from rfl, hb]
  have h2 : a ||| 1 = a + 1 - a % 2 := by
    rcases Nat.mod_two_eq_zero_or_one a with h | h
    · have := Nat.two_pow_add_eq_or_of_lt (i := 1) (b := 1) (by decide) (a / 2)
      rw [show (2 ^ 1 * (a / 2)) = a by omega] at this; omega
    · have := Nat.two_pow_add_eq_or_of_lt (i := 1) (b := 1) (by decide) (a / 2)
      rw [show (2 ^ 1 * (a / 2)) = a - 1 by omega] at this
      have e : a - 1 + 1 = a := by omega
      rw [e] at this
      calc a ||| 1 = (a - 1 ||| 1) ||| 1 := by rw [← this]
        _ = a - 1 ||| (1 ||| 1) := by rw [Nat.or_assoc]
        _ = a := by rw [show (1 ||| 1 : Nat) = 1 from rfl, ← this]
        _ = _ := by omega
  rw [h2]; omega
theorem wf64 {n : Int} (h : (Lit.int .i64 n).wf = true) : -9223372036854775808 ≤ n ∧ n ≤ 9223372036854775807 := by
  simpa [Lit.wf, IntKind.min, IntKind.max, IntKind.signed, IntKind.bits] using h
theorem wfu {n : Int} (h : (Lit.int .u64 n).wf = true) : 0 ≤ n ∧ n ≤ 18446744073709551615 := by
  simpa [Lit.wf, IntKind.min, IntKind.max, IntKind.signed, IntKind.bits] using h

theorem alive : stepstonelaw02_alive.f = some true := by decide +kernel
theorem right_yes (a0 a1 : Int) (c1 : 0 ≤ a0) (c2 : a0 ≤ 2) (c3 : 0 ≤ a1) (c4 : a1 ≤ 1073741823) : slot_word_right.f a0 a1 = some true := by
  unfold slot_word_right.f mx mn; congr 1; simp; omega
theorem right_no (a0 a1 : Int) (c : ¬ (0 ≤ a0 ∧ a0 ≤ 2 ∧ 0 ≤ a1 ∧ a1 ≤ 1073741823)) : slot_word_right.f a0 a1 = some false := by
  unfold slot_word_right.f mx mn; congr 1; simp; omega
theorem packed (a0 a1 : Int) (c1 : 0 ≤ a0) (c2 : a0 ≤ 2) (c3 : 0 ≤ a1) (c4 : a1 ≤ 1073741823) : slot_word_packed.f a0 a1 = some (4 * a1 + a0) := by
  have e1 : IntKind.u64.wrap a1 = a1 := by rw [wrap_u64]; omega
  have e2 : IntKind.u64.wrap (a1 * 4) = a1 * 4 := by rw [wrap_u64]; omega
  have e3 : IntKind.u64.wrap a0 = a0 := by rw [wrap_u64]; omega
  unfold slot_word_packed.f
  rw [e1, e2, e3, or2 _ _ (by omega) (by omega) (by omega) (by omega) (by omega), Int.mul_comm]
theorem meta_yes (a0 a1 : Int) (c1 : 0 ≤ a0) (c2 : a0 ≤ 2) (c3 : 0 ≤ a1) (c4 : a1 ≤ 1073741823) : slot_Meta.f a0 a1 = some (4 * a1 + a0, true) := by
  unfold slot_Meta.f; rw [right_yes a0 a1 c1 c2 c3 c4, packed a0 a1 c1 c2 c3 c4]; rfl
theorem meta_no (a0 a1 : Int) (c : ¬ (0 ≤ a0 ∧ a0 ≤ 2 ∧ 0 ≤ a1 ∧ a1 ≤ 1073741823)) : slot_Meta.f a0 a1 = some (0, false) := by
  unfold slot_Meta.f; rw [right_no a0 a1 c]; rfl
theorem state_of (a0 a1 : Int) (c1 : 0 ≤ a0) (c2 : a0 ≤ 2) (c3 : 0 ≤ a1) (c4 : a1 ≤ 1073741823) : slot_State.f (4 * a1 + a0) = some a0 := by
  unfold slot_State.f; rw [and3 _ (by omega) (by omega)]; unfold wrap64; congr 1; omega
theorem gen_of (a0 a1 : Int) (c1 : 0 ≤ a0) (c2 : a0 ≤ 2) (c3 : 0 ≤ a1) (c4 : a1 ≤ 1073741823) : slot_Gen.f (4 * a1 + a0) = some a1 := by
  have e : (4 * a1 + a0) / 4 = a1 := by omega
  unfold slot_Gen.f mn wrap64; rw [e, if_neg (by omega)]; congr 1; omega
theorem after_out (g l : Int) (c1 : 0 ≤ l) (c2 : l ≤ 1073741823) (c3 : l ≤ g) : slot_After.f g l = some (4 * l + 2) := by
  have e1 : mx 0 (mn l 1073741823) = l := by unfold mx mn; split <;> split <;> omega
  have e2 : mx g 0 = g := by unfold mx; split <;> omega
  unfold slot_After.f; rw [e1, e2, if_pos c3, packed _ _ (by omega) (by omega) c1 c2]; rfl
theorem after_free (g l : Int) (c1 : 0 ≤ g) (c2 : l ≤ 1073741823) (c3 : g < l) : slot_After.f g l = some (4 * (g + 1)) := by
  have e1 : mx 0 (mn l 1073741823) = l := by unfold mx mn; split <;> split <;> omega
  have e2 : mx g 0 = g := by unfold mx; split <;> omega
  have e3 : wrap64 (g + 1) = g + 1 := by unfold wrap64; omega
  unfold slot_After.f; rw [e1, e2, if_neg (by omega), e3, packed _ _ (by omega) (by omega) (by omega) (by omega)]; simp

theorem q1 (w : Int) (h0 : 0 ≤ w) (h1 : w ≤ 18446744073709551615) : stepstoneref02_State.f w = slot_State.f w := by
  unfold stepstoneref02_State.f slot_State.f; rw [and3 _ h0 (by omega), Int.tmod_eq_emod_of_nonneg h0]
theorem q2 (w : Int) (h0 : 0 ≤ w) (h1 : w ≤ 18446744073709551615) : stepstoneref02_Gen.f w = slot_Gen.f w := by
  have e : IntKind.u64.wrap (Int.tdiv w 4) = w / 4 := by rw [wrap_u64, Int.tdiv_eq_ediv_of_nonneg h0]; omega
  have e1 : wrap64 1073741823 = 1073741823 := by unfold wrap64; omega
  unfold stepstoneref02_Gen.f slot_Gen.f mn; rw [e]
  by_cases c : w / 4 > 1073741823
  · rw [if_pos c, if_pos (by omega), e1]
  · rw [if_neg c, if_neg (by omega)]
theorem q3 (w : Int) (h0 : 0 ≤ w) (h1 : w ≤ 18446744073709551615) : stepstoneref02_Dead.f w = slot_Dead.f w := by
  unfold stepstoneref02_Dead.f slot_Dead.f; rw [and1 _ h0 (by omega), Int.tmod_eq_emod_of_nonneg h0]
theorem q4 (w : Int) (h0 : 0 ≤ w) (h1 : w ≤ 18446744073709551615) : stepstoneref02_Kill.f w = slot_Kill.f w := by
  unfold stepstoneref02_Kill.f slot_Kill.f; rw [q3 w h0 h1]; unfold slot_Dead.f
  rw [or1 _ h0 (by omega), and1 _ h0 (by omega), Option.bind_some]
  by_cases c : w % 2 = 1
  · rw [if_pos (by rw [c]; rfl)]; congr 1; omega
  · rw [if_neg (by simp [c]), wrap_u64]; congr 1; omega
theorem q5 (w : Int) (h0 : 0 ≤ w) (h1 : w ≤ 18446744073709551615) : stepstoneref02_Of.f w = slot_Of.f w := by
  unfold stepstoneref02_Of.f slot_Of.f; rw [wrap_u64, Int.tdiv_eq_ediv_of_nonneg h0]; congr 1; omega
theorem v1 (w : Int) : ∃ r, slot_State.f w = some r := ⟨_, rfl⟩
theorem v2 (w : Int) : ∃ r, slot_Gen.f w = some r := ⟨_, rfl⟩
theorem v3 (w : Int) : ∃ r, slot_Dead.f w = some r := ⟨_, rfl⟩
theorem v4 (w : Int) : ∃ r, slot_Kill.f w = some r := ⟨_, rfl⟩
theorem v5 (w : Int) : ∃ r, slot_Of.f w = some r := ⟨_, rfl⟩
theorem SlotParts : stepstonelaw02_SlotParts.Pure := by
  intro w hw
  obtain ⟨h0, h1⟩ := wfu hw
  obtain ⟨r1, e1⟩ := v1 w
  obtain ⟨r2, e2⟩ := v2 w
  obtain ⟨r3, e3⟩ := v3 w
  obtain ⟨r4, e4⟩ := v4 w
  obtain ⟨r5, e5⟩ := v5 w
  unfold stepstonelaw02_SlotParts.f
  rw [alive, q1 w h0 h1, q2 w h0 h1, q3 w h0 h1, q4 w h0 h1, q5 w h0 h1, e1, e2, e3, e4, e5]
  simp only [Option.bind_some, if_true, beq_self_eq_true]

end Go.Proofs.Ytpppcicbkdafeaa.Pure
