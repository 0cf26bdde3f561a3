/-
The word of a slot that is let go of is what the document says; it has the next generation, or is out, and is never taken. No condition.
-/
import Derived.Test.YtpppcicbkdafeaaPSlotAfterx2
import Derived.Lib.Hide
namespace Go.Proofs.Ytpppcicbkdafeaa.OwnAfter
open Go.RowKit Go.Proofs.Ytpppcicbkdafeaa.PSlotAfter Go.Proofs.YtpppcicbkdafeaaW.PrintWords Go.Proofs.YtpppcicbkdafeaaW.PrintLast Go.Proofs.YtpppcicbkdafeaaW.PrintMore

theorem wrap_u64 (n : Int) : IntKind.u64.wrap n = n % 18446744073709551616 := by simp [IntKind.wrap, IntKind.bits, IntKind.signed]
theorem wraps_u64 (n : Int) (h₀ : 0 ≤ n) (h₁ : n < 2 ^ 64) : IntKind.u64.wrap n = n := by rw [wrap_u64]; omega
theorem and3 (x : Int) (h₀ : 0 ≤ x) (h₁ : x < 18446744073709551616) : Go.bits .and .u64 x 3 = x % 4 := bits_mask .u64 64 (by decide) wraps_u64 2 (by decide) x h₀ (by omega)
theorem and1 (x : Int) (h₀ : 0 ≤ x) (h₁ : x < 18446744073709551616) : Go.bits .and .u64 x 1 = x % 2 := bits_mask .u64 64 (by decide) wraps_u64 1 (by decide) x h₀ (by omega)
theorem or2 (x y : Int) (hx₀ : 0 ≤ x) (hx : x % 4 = 0) (hx₁ : x < 18446744073709551616) (h₀ : 0 ≤ y) (h₁ : y < 4) : Go.bits .or .u64 x y = x + y :=
  bits_join .u64 64 (by decide) wraps_u64 2 x y hx₀ (by omega) (by omega) h₀ (by omega) (by omega)
theorem or1 (x : Int) (h₀ : 0 ≤ x) (h₁ : x < 18446744073709551616) : Go.bits .or .u64 x 1 = x + 1 - x % 2 := by
  obtain ⟨a, rfl⟩ := Int.eq_ofNat_of_zero_le h₀
  have ha : a < 2 ^ 64 := by omega
  have hb := (bits_nat .u64 64 (by decide) wraps_u64 a 1 ha (by decide)).2
  rw [show ((1 : Int) = ((1 : Nat) : Int)) from rfl, hb]
  have h2 : a ||| 1 = a + 1 - a % 2 := by
    rcases Nat.mod_two_eq_zero_or_one a with h | h
    · have := Nat.two_pow_add_eq_or_of_lt (i := 1) (b := 1) (by decide) (a / 2)
      rw [show (2 ^ 1 * (a / 2)) = a by omega] at this; omega
    · have := Nat.two_pow_add_eq_or_of_lt (i := 1) (b := 1) (by decide) (a / 2)
      rw [show (2 ^ 1 * (a / 2)) = a - 1 by omega] at this
      have e : a - 1 + 1 = a := by omega
      rw [e] at this
      calc a ||| 1 = (a - 1 ||| 1) ||| 1 := by rw [← this]
        _ = a - 1 ||| (1 ||| 1) := by rw [Nat.or_assoc]
        _ = a := by rw [show (1 ||| 1 : Nat) = 1 from rfl, ← this]
        _ = _ := by omega
  rw [h2]; omega
theorem wf64 {n : Int} (h : (Lit.int .i64 n).wf = true) : -9223372036854775808 ≤ n ∧ n ≤ 9223372036854775807 := by
  simpa [Lit.wf, IntKind.min, IntKind.max, IntKind.signed, IntKind.bits] using h
theorem wfu {n : Int} (h : (Lit.int .u64 n).wf = true) : 0 ≤ n ∧ n ≤ 18446744073709551615 := by
  simpa [Lit.wf, IntKind.min, IntKind.max, IntKind.signed, IntKind.bits] using h

theorem alive : stepstonelaw02_alive.f = some true := by decide +kernel
theorem right_yes (a0 a1 : Int) (c1 : 0 ≤ a0) (c2 : a0 ≤ 2) (c3 : 0 ≤ a1) (c4 : a1 ≤ 1073741823) : slot_word_right.f a0 a1 = some true := by
  unfold slot_word_right.f mx mn; congr 1; simp; omega
theorem right_no (a0 a1 : Int) (c : ¬ (0 ≤ a0 ∧ a0 ≤ 2 ∧ 0 ≤ a1 ∧ a1 ≤ 1073741823)) : slot_word_right.f a0 a1 = some false := by
  unfold slot_word_right.f mx mn; congr 1; simp; omega
theorem packed (a0 a1 : Int) (c1 : 0 ≤ a0) (c2 : a0 ≤ 2) (c3 : 0 ≤ a1) (c4 : a1 ≤ 1073741823) : slot_word_packed.f a0 a1 = some (4 * a1 + a0) := by
  have e1 : IntKind.u64.wrap a1 = a1 := by rw [wrap_u64]; omega
  have e2 : IntKind.u64.wrap (a1 * 4) = a1 * 4 := by rw [wrap_u64]; omega
  have e3 : IntKind.u64.wrap a0 = a0 := by rw [wrap_u64]; omega
  unfold slot_word_packed.f
  rw [e1, e2, e3, or2 _ _ (by omega) (by omega) (by omega) (by omega) (by omega), Int.mul_comm]
theorem meta_yes (a0 a1 : Int) (c1 : 0 ≤ a0) (c2 : a0 ≤ 2) (c3 : 0 ≤ a1) (c4 : a1 ≤ 1073741823) : slot_Meta.f a0 a1 = some (4 * a1 + a0, true) := by
  unfold slot_Meta.f; rw [right_yes a0 a1 c1 c2 c3 c4, packed a0 a1 c1 c2 c3 c4]; rfl
theorem meta_no (a0 a1 : Int) (c : ¬ (0 ≤ a0 ∧ a0 ≤ 2 ∧ 0 ≤ a1 ∧ a1 ≤ 1073741823)) : slot_Meta.f a0 a1 = some (0, false) := by
  unfold slot_Meta.f; rw [right_no a0 a1 c]; rfl
theorem state_of (a0 a1 : Int) (c1 : 0 ≤ a0) (c2 : a0 ≤ 2) (c3 : 0 ≤ a1) (c4 : a1 ≤ 1073741823) : slot_State.f (4 * a1 + a0) = some a0 := by
  unfold slot_State.f; rw [and3 _ (by omega) (by omega)]; unfold wrap64; congr 1; omega
theorem gen_of (a0 a1 : Int) (c1 : 0 ≤ a0) (c2 : a0 ≤ 2) (c3 : 0 ≤ a1) (c4 : a1 ≤ 1073741823) : slot_Gen.f (4 * a1 + a0) = some a1 := by
  have e : (4 * a1 + a0) / 4 = a1 := by omega
  unfold slot_Gen.f mn wrap64; rw [e, if_neg (by omega)]; congr 1; omega
theorem after_out (g l : Int) (c1 : 0 ≤ l) (c2 : l ≤ 1073741823) (c3 : l ≤ g) : slot_After.f g l = some (4 * l + 2) := by
  have e1 : mx 0 (mn l 1073741823) = l := by unfold mx mn; split <;> split <;> omega
  have e2 : mx g 0 = g := by unfold mx; split <;> omega
  unfold slot_After.f; rw [e1, e2, if_pos c3, packed _ _ (by omega) (by omega) c1 c2]; rfl
theorem after_free (g l : Int) (c1 : 0 ≤ g) (c2 : l ≤ 1073741823) (c3 : g < l) : slot_After.f g l = some (4 * (g + 1)) := by
  have e1 : mx 0 (mn l 1073741823) = l := by unfold mx mn; split <;> split <;> omega
  have e2 : mx g 0 = g := by unfold mx; split <;> omega
  have e3 : wrap64 (g + 1) = g + 1 := by unfold wrap64; omega
  unfold slot_After.f; rw [e1, e2, if_neg (by omega), e3, packed _ _ (by omega) (by omega) (by omega) (by omega)]; simp

def M : Int := 1073741823
def lo (x : Int) : Int := if x < 0 then 0 else x
def cl (l : Int) : Int := if l < 0 then 0 else if l > 1073741823 then 1073741823 else l
theorem mx_lo (g : Int) : mx g 0 = lo g := by unfold mx lo; rfl
theorem mx_cl (l : Int) : mx 0 (mn l 1073741823) = cl l := by
  unfold mx mn cl
  by_cases a : 1073741823 < l
  · rw [if_pos a, if_neg (show ¬ l < 0 by omega)]; rfl
  · rw [if_neg a]
    by_cases b : l < 0
    · rw [if_pos b, if_neg (by omega)]
    · rw [if_neg b]; by_cases c : 0 < l
      · rw [if_pos c]
      · rw [if_neg c]; omega
theorem lo_nonneg (g : Int) : 0 ≤ lo g := by unfold lo; split <;> omega
theorem cl_range (l : Int) : 0 ≤ cl l ∧ cl l ≤ 1073741823 := by unfold cl; split <;> (try split) <;> omega
theorem prog_out (g l : Int) (h : cl l ≤ lo g) : slot_After.f g l = some (4 * cl l + 2) := by
  unfold slot_After.f; rw [mx_lo, mx_cl, if_pos h, packed _ _ (by omega) (by omega) (cl_range l).1 (cl_range l).2]; rfl
theorem prog_free (g l : Int) (h : lo g < cl l) : slot_After.f g l = some (4 * (lo g + 1)) := by
  have a := lo_nonneg g
  have b := cl_range l
  have e : wrap64 (lo g + 1) = lo g + 1 := by unfold wrap64; omega
  unfold slot_After.f; rw [mx_lo, mx_cl, if_neg (by omega), e, packed _ _ (by omega) (by omega) (by omega) (by omega)]; simp
theorem ref_f (g l : Int) : stepstoneref02_After.f 2 g l = stepstoneref02_After.j0 2 (lo g) l := by
  unfold stepstoneref02_After.f lo; split <;> rfl
theorem ref_j0 (x l : Int) : stepstoneref02_After.j0 2 x l = stepstoneref02_After.j1 1 x (if l < 0 then 0 else l) := by
  simp only [stepstoneref02_After.j0]; split <;> rfl
theorem ref_out (g l : Int) (h : cl l ≤ lo g) : stepstoneref02_After.f 2 g l = some (4 * cl l + 2) := by
  rw [ref_f, ref_j0]; simp only [stepstoneref02_After.j1]
  by_cases a : l < 0
  · have e : cl l = 0 := by unfold cl; rw [if_pos a]
    rw [e] at h
    rw [if_pos a, if_neg (by omega), if_pos h, e]
    have e1 : wrap64 (4 * 0) = 0 := by unfold wrap64; omega
    have e2 : wrap64 (0 + 2) = 2 := by unfold wrap64; omega
    rw [e1, e2, wrap_u64]; rfl
  · rw [if_neg a]
    by_cases b : l > 1073741823
    · have e : cl l = 1073741823 := by unfold cl; rw [if_neg a, if_pos b]
      rw [e] at h
      rw [if_pos b, if_pos h, e]
    · have e : cl l = l := by unfold cl; rw [if_neg a, if_neg b]
      rw [e] at h
      rw [if_neg b, if_pos h, e]
      have e1 : wrap64 (4 * l) = 4 * l := by unfold wrap64; omega
      have e2 : wrap64 (4 * l + 2) = 4 * l + 2 := by unfold wrap64; omega
      rw [e1, e2, wrap_u64, Int.emod_eq_of_lt (by omega) (by omega)]
theorem ref_free (g l : Int) (h : lo g < cl l) : stepstoneref02_After.f 2 g l = some (4 * (lo g + 1)) := by
  have n0 := lo_nonneg g
  have c0 := cl_range l
  have e1 : wrap64 (4 * lo g) = 4 * lo g := by unfold wrap64; omega
  have e2 : wrap64 (4 * lo g + 4) = 4 * lo g + 4 := by unfold wrap64; omega
  have e3 : IntKind.u64.wrap (4 * lo g + 4) = 4 * (lo g + 1) := by rw [wrap_u64]; omega
  rw [ref_f, ref_j0]; simp only [stepstoneref02_After.j1]
  by_cases a : l < 0
  · have e : cl l = 0 := by unfold cl; rw [if_pos a]
    omega
  · rw [if_neg a]
    by_cases b : l > 1073741823
    · have e : cl l = 1073741823 := by unfold cl; rw [if_neg a, if_pos b]
      rw [e] at h
      rw [if_pos b, if_neg (by omega), e1, e2, e3]
    · have e : cl l = l := by unfold cl; rw [if_neg a, if_neg b]
      rw [e] at h
      rw [if_neg b, if_neg (by omega), e1, e2, e3]

theorem below_of_drewN {w w' : World} {n : Nat} (h : Below (w.drewN n).heap.size (w.drewN n) w') : Below w.heap.size w w' := (pw_below_drewN (Below.refl _ _) n).trans h
theorem alive_calls (w : World) : Calls Try.prog 11 #[] w fun e w' => e = .returned (.bool true) ∧ Below w.heap.size w w' :=
  stepstonelaw02_alive.calls true w alive

/-- Where the inputs lie outside: alive alone. -/
theorem walk_aside (g l x s : Int) (w : World) (h : slot_After.f g l = some x) (h' : stepstoneref02_After.f 2 g l = some x) (hs : slot_State.f x = some s)
    (s1 : (s == 1) = false) (s3 : (s == 3) = false) (o1 : decide (g < 0) = true ∨ (decide (g < 0) = false ∧ decide (l < 0) = true) ∨ (decide (g < 0) = false ∧ decide (l < 0) = false ∧ decide (1073741823 < l) = true)) :
    Calls Try.prog 5 #[.int .i64 g, .int .i64 l] w fun e w' => e = .returned (.bool true) ∧ Below w.heap.size w w' := by
  have xx : (x != x) = false := bne_self_eq_false x
  have H := Lib.hid h
  have H' := Lib.hid h'
  have HS := Lib.hid hs
  clear h h' hs
  rcases o1 with o | ⟨o, o2⟩ | ⟨o, o2, o3⟩
  all_goals
    go_enter Try.func5, Try.ntmps5
    go_wp2_with fail
    refine (slot_After.calls g l x _ H.out).mono ?_
    rintro e w1 ⟨rfl, hb0⟩
    have HB0 := Lib.hid hb0
    clear hb0
    go_wp2_with fail
    refine (slot_State.calls x s _ HS.out).mono ?_
    rintro e w' ⟨rfl, ⟨n, rfl⟩⟩
    go_wp2_with fail
    refine (stepstoneref02_After.calls 2 g l x _ H'.out).mono ?_
    rintro e w' ⟨rfl, ⟨n, rfl⟩⟩
    go_wp2_with fail
    refine (alive_calls _).mono ?_
    rintro e w' ⟨rfl, hb1⟩
    have HB := Lib.hid (below_of_drewN hb1)
    clear hb1
    go_wp2_with fail
    go_ret
    exact ⟨rfl, HB0.out.trans (HB.out.mono HB0.out.size)⟩

theorem walk_out (g l : Int) (w : World) (g0 : 0 ≤ g) (l0 : 0 ≤ l) (l1 : l ≤ 1073741823) (hgl : l ≤ g) :
    Calls Try.prog 5 #[.int .i64 g, .int .i64 l] w fun e w' => e = .returned (.bool true) ∧ Below w.heap.size w w' := by
  have cg : lo g = g := by unfold lo; rw [if_neg (by omega)]
  have cll : cl l = l := by unfold cl; rw [if_neg (by omega), if_neg (by omega)]
  have H := Lib.hid (prog_out g l (by omega))
  have H' := Lib.hid (ref_out g l (by omega))
  have HS := Lib.hid (state_of 2 l (by omega) (by omega) l0 l1)
  rw [cll] at H H'
  have xx : (4 * l + 2 != 4 * l + 2) = false := bne_self_eq_false _
  have d1 : decide (g < 0) = false := decide_eq_false (by omega)
  have d2 : decide (l < 0) = false := decide_eq_false (by omega)
  have d3 : decide (1073741823 < l) = false := decide_eq_false (by omega)
  have d4 : decide (l ≤ g) = true := decide_eq_true hgl
  clear cg cll
  go_enter Try.func5, Try.ntmps5
  go_wp2_with fail
  refine (slot_After.calls g l _ _ H.out).mono ?_
  rintro e w1 ⟨rfl, hb0⟩
  have HB0 := Lib.hid hb0
  clear hb0
  go_wp2_with fail
  refine (slot_State.calls _ 2 _ HS.out).mono ?_
  rintro e w' ⟨rfl, ⟨n, rfl⟩⟩
  go_wp2_with fail
  refine (stepstoneref02_After.calls 2 g l _ _ H'.out).mono ?_
  rintro e w' ⟨rfl, ⟨n, rfl⟩⟩
  go_wp2_with fail
  refine (alive_calls _).mono ?_
  rintro e w' ⟨rfl, hb1⟩
  have HB := Lib.hid (below_of_drewN hb1)
  clear hb1
  go_wp2_with fail
  go_ret
  exact ⟨rfl, HB0.out.trans (HB.out.mono HB0.out.size)⟩

theorem walk_free (g l : Int) (w : World) (g0 : 0 ≤ g) (l1 : l ≤ 1073741823) (hgl : g < l) :
    Calls Try.prog 5 #[.int .i64 g, .int .i64 l] w fun e w' => e = .returned (.bool true) ∧ Below w.heap.size w w' := by
  have cg : lo g = g := by unfold lo; rw [if_neg (by omega)]
  have cll : cl l = l := by unfold cl; rw [if_neg (by omega), if_neg (by omega)]
  have H := Lib.hid (prog_free g l (by omega))
  have H' := Lib.hid (ref_free g l (by omega))
  have hs := state_of 0 (g + 1) (by omega) (by omega) (by omega) (by omega)
  have hg := gen_of 0 (g + 1) (by omega) (by omega) (by omega) (by omega)
  rw [Int.add_zero] at hs hg
  have HS := Lib.hid hs
  have HG := Lib.hid hg
  rw [cg] at H H'
  clear cg cll hs hg
  obtain ⟨x, hx⟩ : ∃ x, x = 4 * (g + 1) := ⟨_, rfl⟩
  rw [← hx] at H H' HS HG
  clear hx
  have xx : (x != x) = false := bne_self_eq_false _
  have d1 : decide (g < 0) = false := decide_eq_false (by omega)
  have d2 : decide (l < 0) = false := decide_eq_false (by omega)
  have d3 : decide (1073741823 < l) = false := decide_eq_false (by omega)
  have d4 : decide (l ≤ g) = false := decide_eq_false (by omega)
  go_enter Try.func5, Try.ntmps5
  go_wp2_with fail
  refine (slot_After.calls g l x _ H.out).mono ?_
  rintro e w1 ⟨rfl, hb0⟩
  have HB0 := Lib.hid hb0
  clear hb0
  go_wp2_with fail
  refine (slot_State.calls x 0 _ HS.out).mono ?_
  rintro e w' ⟨rfl, ⟨n, rfl⟩⟩
  go_wp2_with fail
  refine (stepstoneref02_After.calls 2 g l x _ H'.out).mono ?_
  rintro e w' ⟨rfl, ⟨n, rfl⟩⟩
  go_wp2_with fail
  refine (alive_calls _).mono ?_
  rintro e w' ⟨rfl, hb1⟩
  have HB := Lib.hid (below_of_drewN hb1)
  clear hb1
  go_wp2_with fail
  refine (slot_Gen.calls x (g + 1) _ HG.out).mono ?_
  rintro e w3 ⟨rfl, hb3⟩
  have HB3 := Lib.hid hb3
  clear hb3
  go_wp2_with fail
  go_ret
  exact ⟨rfl, (HB0.out.trans (HB.out.mono HB0.out.size)).trans (HB3.out.mono (HB0.out.trans (HB.out.mono HB0.out.size)).size)⟩

theorem walk (g l : Int) (w : World) :
    Calls Try.prog 5 #[.int .i64 g, .int .i64 l] w fun e w' => e = .returned (.bool true) ∧ Below w.heap.size w w' := by
  by_cases c : 0 ≤ g ∧ 0 ≤ l ∧ l ≤ 1073741823
  · obtain ⟨c1, c2, c3⟩ := c
    by_cases d : l ≤ g
    · exact walk_out g l w c1 c2 c3 d
    · exact walk_free g l w c1 c3 (by omega)
  · have o : decide (g < 0) = true ∨ (decide (g < 0) = false ∧ decide (l < 0) = true) ∨ (decide (g < 0) = false ∧ decide (l < 0) = false ∧ decide (1073741823 < l) = true) := by
      simp only [decide_eq_true_eq, decide_eq_false_iff_not]; omega
    have a := lo_nonneg g
    have b := cl_range l
    by_cases d : cl l ≤ lo g
    · exact walk_aside g l _ 2 w (prog_out g l d) (ref_out g l d) (state_of 2 (cl l) (by omega) (by omega) b.1 b.2) rfl rfl o
    · have hs := state_of 0 (lo g + 1) (by omega) (by omega) (by omega) (by omega)
      rw [Int.add_zero] at hs
      exact walk_aside g l _ 0 w (prog_free g l (by omega)) (ref_free g l (by omega)) hs rfl rfl o

end Go.Proofs.Ytpppcicbkdafeaa.OwnAfter
