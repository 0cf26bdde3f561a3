/-
Own text, put together by an own program (shake.py) out of this claim's texts: what its theorem needs of them.
-/
import Derived.Test.YtbonlagecjealaaA9
namespace Go.Eng
open Go.RowKit Go.Proofs.YtbonlagecjealaaW.PrintWords
set_option linter.unusedVariables false
set_option linter.unusedSimpArgs false
structure R7 (T S C H K V L : Int) : Prop where
  t : 1 ≤ T ∧ T ≤ 8
  s : 1 ≤ S ∧ S ≤ 8
  c : 1 ≤ C ∧ C ≤ 64
  h : 1 ≤ H ∧ H ≤ 6
  k : 1 ≤ K ∧ K ≤ 64
  v : 1 ≤ V ∧ V ≤ 64
  l : 0 ≤ L ∧ L ≤ 1073741823
def r7 (T S C H K V L : Int) : Bool := decide (1 ≤ T) && decide (T ≤ 8) && decide (1 ≤ S) && decide (S ≤ 8) && decide (1 ≤ C) && decide (C ≤ 64) && decide (1 ≤ H) && decide (H ≤ 6) && decide (1 ≤ K) && decide (K ≤ 64) && decide (1 ≤ V) && decide (V ≤ 64) && decide (0 ≤ L) && decide (L ≤ 1073741823)
theorem r7_iff {T S C H K V L : Int} : r7 T S C H K V L = true ↔ R7 T S C H K V L := by
  unfold r7
  simp only [Bool.and_eq_true, decide_eq_true_eq]
  constructor
  · rintro ⟨⟨⟨⟨⟨⟨⟨⟨⟨⟨⟨⟨⟨h1, h2⟩, h3⟩, h4⟩, h5⟩, h6⟩, h7⟩, h8⟩, h9⟩, h10⟩, h11⟩, h12⟩, h13⟩, h14⟩
    exact ⟨⟨h1, h2⟩, ⟨h3, h4⟩, ⟨h5, h6⟩, ⟨h7, h8⟩, ⟨h9, h10⟩, ⟨h11, h12⟩, ⟨h13, h14⟩⟩
  · rintro ⟨⟨h1, h2⟩, ⟨h3, h4⟩, ⟨h5, h6⟩, ⟨h7, h8⟩, ⟨h9, h10⟩, ⟨h11, h12⟩, ⟨h13, h14⟩⟩
    exact ⟨⟨⟨⟨⟨⟨⟨⟨⟨⟨⟨⟨⟨h1, h2⟩, h3⟩, h4⟩, h5⟩, h6⟩, h7⟩, h8⟩, h9⟩, h10⟩, h11⟩, h12⟩, h13⟩, h14⟩
theorem to_eq (x lo hi : Int) (h : lo ≤ hi) : ((x : Int) == (if lo < (if hi < x then hi else x) then (if hi < x then hi else x) else lo)) = (decide (lo ≤ x) && decide (x ≤ hi)) := by
  by_cases h1 : hi < x
  · rw [if_pos h1]
    have e1 : decide (x ≤ hi) = false := decide_eq_false (by omega)
    rw [e1, Bool.and_false]
    by_cases h2 : lo < hi
    · rw [if_pos h2]; simp; omega
    · rw [if_neg h2]; simp; omega
  · rw [if_neg h1]
    have e1 : decide (x ≤ hi) = true := decide_eq_true (by omega)
    rw [e1, Bool.and_true]
    by_cases h2 : lo < x
    · rw [if_pos h2]; simp; omega
    · rw [if_neg h2, Bool.eq_iff_iff]; simp; omega
theorem plan_Right_is (T S C H K V L : Int) : plan_Right.f T S C H K V L = some (r7 T S C H K V L) := by
  unfold plan_Right.f plan_to.f
  simp only [Option.bind_some]
  rw [to_eq _ _ _ (by decide), to_eq _ _ _ (by decide), to_eq _ _ _ (by decide), to_eq _ _ _ (by decide), to_eq _ _ _ (by decide), to_eq _ _ _ (by decide), to_eq _ _ _ (by decide)]
  unfold r7
  simp only [Bool.and_assoc]
theorem ref04_Right_is (T S C H K V L : Int) : stepstoneref04_Right.f T S C H K V L = some (r7 T S C H K V L) := by
  unfold stepstoneref04_Right.f
  have key : r7 T S C H K V L = ((!(decide (T < 1) || decide (T > 8) || decide (S < 1) || decide (S > 8) || decide (C < 1) || decide (C > 64) || decide (H < 1) || decide (H > 6))) && (decide (K ≥ 1) && decide (K ≤ 64) && decide (V ≥ 1) && decide (V ≤ 64) && decide (L ≥ 0) && decide (L ≤ 1073741823))) := by
    rw [Bool.eq_iff_iff, r7_iff]
    simp only [Bool.and_eq_true, Bool.not_eq_true', Bool.or_eq_false_iff, decide_eq_true_eq, decide_eq_false_iff_not]
    constructor
    · rintro ⟨⟨h1, h2⟩, ⟨h3, h4⟩, ⟨h5, h6⟩, ⟨h7, h8⟩, ⟨h9, h10⟩, ⟨h11, h12⟩, ⟨h13, h14⟩⟩
      omega
    · intro h
      exact ⟨by omega, by omega, by omega, by omega, by omega, by omega, by omega⟩
  rw [key]
  by_cases h1 : T < 1
  · simp [h1]
  by_cases h2 : T > 8
  · simp [h1, h2]
  by_cases h3 : S < 1
  · simp [h1, h2, h3]
  by_cases h4 : S > 8
  · simp [h1, h2, h3, h4]
  by_cases h5 : C < 1
  · simp [h1, h2, h3, h4, h5]
  by_cases h6 : C > 64
  · simp [h1, h2, h3, h4, h5, h6]
  by_cases h7 : H < 1
  · simp [h1, h2, h3, h4, h5, h6, h7]
  by_cases h8 : H > 6
  · simp [h1, h2, h3, h4, h5, h6, h7, h8]
  by_cases h9 : K ≥ 1
  · by_cases h10 : K ≤ 64
    · by_cases h11 : V ≥ 1
      · by_cases h12 : V ≤ 64
        · by_cases h13 : L ≥ 0
          · simp [h1, h2, h3, h4, h5, h6, h7, h8, h9, h10, h11, h12, h13]
          · simp [h1, h2, h3, h4, h5, h6, h7, h8, h9, h10, h11, h12, h13]
        · simp [h1, h2, h3, h4, h5, h6, h7, h8, h9, h10, h11, h12]
      · simp [h1, h2, h3, h4, h5, h6, h7, h8, h9, h10, h11]
    · simp [h1, h2, h3, h4, h5, h6, h7, h8, h9, h10]
  · simp [h1, h2, h3, h4, h5, h6, h7, h8, h9]
def lenI (T S C H : Int) : Int := 1 + T * S + (C + 1) * (6 + H)
def cellI (T S H i f : Int) : Int := 1 + T * S + i * (6 + H) + f
theorem mul_range {a b : Int} {p q : Int} (h0 : 0 ≤ a) (h1 : a ≤ p) (h2 : 0 ≤ b) (h3 : b ≤ q) : 0 ≤ a * b ∧ a * b ≤ p * q :=
  ⟨Int.mul_nonneg h0 h2, Int.mul_le_mul h1 h3 h2 (Int.le_trans h0 h1)⟩
theorem lens {T S C H K V L : Int} (h : R7 T S C H K V L) : 0 ≤ T * S ∧ T * S ≤ 64 ∧ 0 ≤ (C + 1) * (6 + H) ∧ (C + 1) * (6 + H) ≤ 780 := by
  have h1 := mul_range (a := T) (b := S) (p := 8) (q := 8) (by have := h.t; omega) (by have := h.t; omega) (by have := h.s; omega) (by have := h.s; omega)
  have h2 := mul_range (a := C + 1) (b := 6 + H) (p := 65) (q := 12) (by have := h.c; omega) (by have := h.c; omega) (by have := h.h; omega) (by have := h.h; omega)
  omega
theorem cells {T S C H K V L i f : Int} (h : R7 T S C H K V L) (h0 : 0 ≤ i) (h1 : i ≤ C) (h2 : 0 ≤ f) (h3 : f < 6 + H) : 0 ≤ cellI T S H i f ∧ cellI T S H i f < lenI T S C H ∧ 0 ≤ i * (6 + H) ∧ i * (6 + H) ≤ 768 := by
  have hl := lens h
  have e1 : (C + 1) * (6 + H) = C * (6 + H) + (6 + H) := by rw [Int.add_mul, Int.one_mul]
  have h4 := mul_range (a := i) (b := 6 + H) (p := C) (q := 6 + H) h0 h1 (by have := h.h; omega) (Int.le_refl _)
  have h5 := mul_range (a := i) (b := 6 + H) (p := 64) (q := 12) h0 (by have := h.c; omega) (by have := h.h; omega) (by have := h.h; omega)
  unfold cellI lenI
  have := h.h
  omega
theorem plan_Len_is (T S C H K V L : Int) : plan_Len.f T S C H K V L = some (if r7 T S C H K V L = true then lenI T S C H else 0) := by
  unfold plan_Len.f plan_first.f plan_fields.f
  rw [plan_Right_is]
  simp only [Option.bind_some]
  by_cases h : r7 T S C H K V L = true
  · rw [if_pos h, if_pos h]
    have hl := lens (r7_iff.1 h)
    have hc := (r7_iff.1 h).c
    have hh := (r7_iff.1 h).h
    rw [wi64 (n := T * S) (by omega) (by omega), wi64 (n := 1 + T * S) (by omega) (by omega), wi64 (n := 6 + H) (by omega) (by omega), wi64 (n := C + 1) (by omega) (by omega), wi64 (n := (C + 1) * (6 + H)) (by omega) (by omega), wi64 (by omega) (by omega)]
    rfl
  · rw [if_neg h, if_neg h]
theorem ref04_Len_is (T S C H K V L : Int) : stepstoneref04_Len.f T S C H K V L = some (if r7 T S C H K V L = true then lenI T S C H else 0) := by
  unfold stepstoneref04_Len.f
  rw [ref04_Right_is]
  simp only [Option.bind_some]
  by_cases h : r7 T S C H K V L = true
  · rw [if_pos h, if_pos h]
    have hl := lens (r7_iff.1 h)
    have hc := (r7_iff.1 h).c
    have hh := (r7_iff.1 h).h
    rw [wi64 (n := T * S) (by omega) (by omega), wi64 (n := 1 + T * S) (by omega) (by omega), wi64 (n := 6 + H) (by omega) (by omega), wi64 (n := C + 1) (by omega) (by omega), wi64 (n := (C + 1) * (6 + H)) (by omega) (by omega), wi64 (by omega) (by omega)]
    rfl
  · rw [if_neg h, if_neg h]
def isF (C H i f : Int) : Bool := decide (0 ≤ i) && decide (i ≤ C) && decide (0 ≤ f) && decide (f < 6 + H)
theorem isF_iff {C H i f : Int} : isF C H i f = true ↔ 0 ≤ i ∧ i ≤ C ∧ 0 ≤ f ∧ f < 6 + H := by
  unfold isF
  simp only [Bool.and_eq_true, decide_eq_true_eq]
  constructor
  · rintro ⟨⟨⟨a, b⟩, c⟩, d⟩; exact ⟨a, b, c, d⟩
  · rintro ⟨a, b, c, d⟩; exact ⟨⟨⟨a, b⟩, c⟩, d⟩
theorem cell_wrap {T S C H K V L i f : Int} (h : R7 T S C H K V L) (hf : isF C H i f = true) : IntKind.wrap .i64 (IntKind.wrap .i64 (IntKind.wrap .i64 (1 + IntKind.wrap .i64 (T * S)) + IntKind.wrap .i64 (i * IntKind.wrap .i64 (6 + H))) + f) = cellI T S H i f := by
  obtain ⟨h0, h1, h2, h3⟩ := isF_iff.1 hf
  have hl := lens h
  have hc := cells h h0 h1 h2 h3
  have hh := h.h
  unfold cellI at *
  rw [wi64 (n := T * S) (by omega) (by omega), wi64 (n := 1 + T * S) (by omega) (by omega), wi64 (n := 6 + H) (by omega) (by omega), wi64 (n := i * (6 + H)) (by omega) (by omega), wi64 (n := 1 + T * S + i * (6 + H)) (by omega) (by omega), wi64 (by omega) (by omega)]
theorem within_is (a b c : Int) : plan_within.f a b c = some (decide (b ≤ a) && decide (a ≤ c)) := by
  unfold plan_within.f
  by_cases h : a ≥ b
  · rw [if_pos h, show decide (b ≤ a) = true from decide_eq_true h]; simp
  · rw [if_neg h, show decide (b ≤ a) = false from decide_eq_false h]; simp
theorem plan_Cell_is (T S C H K V L i f : Int) : plan_Cell.f T S C H K V L i f = some (if (r7 T S C H K V L && isF C H i f) = true then cellI T S H i f else -1) := by
  unfold plan_Cell.f plan_first.f plan_fields.f
  rw [plan_Right_is]
  simp only [Option.bind_some, within_is]
  by_cases h : r7 T S C H K V L = true
  · have hh := (r7_iff.1 h).h
    have e6 : IntKind.wrap .i64 (IntKind.wrap .i64 (6 + H) - 1) = 6 + H - 1 := by rw [wi64 (n := 6 + H) (by omega) (by omega), wi64 (by omega) (by omega)]
    rw [if_pos h, h, Bool.true_and, e6]
    by_cases h1 : (decide (0 ≤ i) && decide (i ≤ C)) = true
    · rw [if_pos h1]
      simp only [Option.bind_some]
      have e7 : (decide (0 ≤ f) && decide (f ≤ 6 + H - 1)) = isF C H i f := by
        rw [Bool.eq_iff_iff, isF_iff]
        simp only [Bool.and_eq_true, decide_eq_true_eq] at h1 ⊢
        omega
      rw [e7]
      by_cases h2 : isF C H i f = true
      · rw [h2]
        simp only [Bool.not_true, Bool.false_eq_true, if_false, if_true]
        rw [cell_wrap (r7_iff.1 h) h2]
      · rw [Bool.not_eq_true] at h2
        rw [h2]
        simp
    · have h2 : isF C H i f = false := by
        rw [← Bool.not_eq_true, isF_iff]
        simp only [Bool.and_eq_true, decide_eq_true_eq] at h1
        omega
      rw [if_neg h1, h2]
      simp
  · rw [Bool.not_eq_true] at h
    rw [h]
    simp
theorem ref04_Cell_is (T S C H K V L i f : Int) : stepstoneref04_Cell.f T S C H K V L i f = some (if (r7 T S C H K V L && isF C H i f) = true then cellI T S H i f else -1) := by
  unfold stepstoneref04_Cell.f
  rw [ref04_Right_is]
  simp only [Option.bind_some]
  by_cases h : r7 T S C H K V L = true
  · have hh := (r7_iff.1 h).h
    have e6 : IntKind.wrap .i64 (6 + H) = 6 + H := wi64 (by omega) (by omega)
    rw [if_pos h, h, Bool.true_and]
    by_cases h0 : i < 0
    · have h2 : isF C H i f = false := by rw [← Bool.not_eq_true, isF_iff]; omega
      rw [if_pos h0, h2]; simp
    · by_cases h1 : i > C
      · have h2 : isF C H i f = false := by rw [← Bool.not_eq_true, isF_iff]; omega
        rw [if_neg h0, if_pos h1, h2]; simp
      · by_cases h3 : f < 0
        · have h2 : isF C H i f = false := by rw [← Bool.not_eq_true, isF_iff]; omega
          rw [if_neg h0, if_neg h1, if_pos h3, h2]; simp
        · rw [if_neg h0, if_neg h1, if_neg h3]
          by_cases h2 : isF C H i f = true
          · have h4 : decide (f ≥ IntKind.wrap .i64 (6 + H)) = false := by rw [e6]; have := isF_iff.1 h2; exact decide_eq_false (by omega)
            rw [h4, h2]
            simp only [Option.bind_some, Bool.false_eq_true, if_false, if_true]
            rw [cell_wrap (r7_iff.1 h) h2]
          · have h4 : decide (f ≥ IntKind.wrap .i64 (6 + H)) = true := by rw [e6]; rw [isF_iff] at h2; exact decide_eq_true (by omega)
            rw [Bool.not_eq_true] at h2
            rw [h4, h2]; simp
  · rw [Bool.not_eq_true] at h
    rw [h]
    simp
end Go.Eng
