/- Own text, written by an own program: E5. -/
import Derived.Test.YtpppcicbkdafeacET
import Derived.Test.YtpppcicbkdafeacGSeqx0
import Derived.Test.YtpppcicbkdafeacGSeqx1
import Derived.Test.YtpppcicbkdafeacGSeqx2
import Derived.Test.YtpppcicbkdafeacGSeqx3
import Derived.Test.YtpppcicbkdafeacGSeqx4
import Derived.Test.YtpppcicbkdafeacGSeqx5
import Derived.Test.YtpppcicbkdafeacGSeqx6
namespace Go.Eng
open Go.Proofs Go.RowKit Go.Proofs.YtpppcicbkdafeacW.PrintWords Go.Proofs.Ytpppcicbkdafeac.GSeq
set_option linter.unusedVariables false
theorem cmp_isNaN_uint64.con (a0 : Int) (r : Bool) (h : cmp_isNaN_uint64.f a0 = some r) (w : World)  : Calls Try.prog 37 #[.int .u64 a0] w fun e w' => ∃ z : Unit, e = .returned (.bool r) ∧ (∀ φ ∈ ([] : List (World → Prop)), FreshF w.heap.size w' φ) ∧ Below w.heap.size w w' := by
  refine (cmp_isNaN_uint64.calls a0 r w h).mono ?_
  rintro e w' ⟨rfl, hb⟩
  exact ⟨(), rfl, fun _ h => (by cases h), hb.below⟩

theorem cmp_Compare_uint64.con (a0 : Int) (a1 : Int) (r : Int) (h : cmp_Compare_uint64.f a0 a1 = some r) (w : World)  : Calls Try.prog 36 #[.int .u64 a0, .int .u64 a1] w fun e w' => ∃ z : Unit, e = .returned (.int .i64 r) ∧ (∀ φ ∈ ([] : List (World → Prop)), FreshF w.heap.size w' φ) ∧ Below w.heap.size w w' := by
  refine (cmp_Compare_uint64.calls a0 a1 r w h).mono ?_
  rintro e w' ⟨rfl, hb⟩
  exact ⟨(), rfl, fun _ h => (by cases h), hb.below⟩

theorem seq_Pair_to.con (a0_0 : Int) (a0_1 : Int) (a1 : Int) (r : Int) (h : seq_Pair_to.f a0_0 a0_1 a1 = some r) (w : World)  : Calls Try.prog 35 #[.agg #[.int .u64 a0_0, .int .u64 a0_1], .int .u64 a1] w fun e w' => ∃ z : Unit, e = .returned (.int .i64 r) ∧ (∀ φ ∈ ([] : List (World → Prop)), FreshF w.heap.size w' φ) ∧ Below w.heap.size w w' := by
  refine (seq_Pair_to.calls a0_0 a0_1 a1 r w h).mono ?_
  rintro e w' ⟨rfl, hb⟩
  exact ⟨(), rfl, fun _ h => (by cases h), hb⟩

theorem seq_Pair_uint64.con (k : Nat) (A0 : Option Addr) (c0 : Nat) (l0 : List (S52)) (a1 : Int) (a2 : Int) (r1 : Int) (r2 : Bool) (h : seq_Pair_uint64.f k l0 a1 a2 = some (r1, r2)) (w : World) (hf_l0 : KC k52 A0 c0 l0 w) : Calls Try.prog 34 #[.slice A0 l0.length c0, .int .u64 a1, .func (.func 35) #[] #[]] w fun e w' => ∃ z : Unit, e = .returned (.tuple #[.int .i64 r1, .bool r2]) ∧ (∀ φ ∈ ([] : List (World → Prop)), FreshF w.heap.size w' φ) ∧ Below w.heap.size w w' := by
  refine (seq_Pair_uint64.calls k A0 c0 l0 a1 a2 r1 r2 w hf_l0.1 hf_l0.2 h).mono ?_
  rintro e w' ⟨rfl, hb⟩
  exact ⟨(), rfl, fun _ h => (by cases h), hb⟩

theorem seq_Map_place.con (k : Nat) (A0_0 : Option Addr) (c0_0 : Nat) (l0_0 : List (S52)) (a1 : Int) (r1 : Int) (r2 : Bool) (h : seq_Map_place.f k l0_0 a1 = some (r1, r2)) (w : World) (hf_l0_0 : KC k52 A0_0 c0_0 l0_0 w) : Calls Try.prog 31 #[.agg #[.slice A0_0 l0_0.length c0_0], .int .u64 a1] w fun e w' => ∃ z : Unit, e = .returned (.tuple #[.int .i64 r1, .bool r2]) ∧ (∀ φ ∈ ([] : List (World → Prop)), FreshF w.heap.size w' φ) ∧ Below w.heap.size w w' := by
  refine (seq_Map_place.calls k A0_0 c0_0 l0_0 a1 r1 r2 w hf_l0_0.1 hf_l0_0.2 h).mono ?_
  rintro e w' ⟨rfl, hb⟩
  exact ⟨(), rfl, fun _ h => (by cases h), hb⟩

theorem seq_Map_get.con (k : Nat) (A0_0 : Option Addr) (c0_0 : Nat) (l0_0 : List (S52)) (a1 : Int) (r1 : Bool) (r2 : Bool) (r3 : Int) (r4 : List Int) (h : seq_Map_get.f k l0_0 a1 = some (r1, r2, r3, r4)) (w : World) (hf_l0_0 : KC k52 A0_0 c0_0 l0_0 w) : Calls Try.prog 22 #[.agg #[.slice A0_0 l0_0.length c0_0], .int .u64 a1] w fun e w' => ∃ z : (Option Addr × Nat), e = .returned (.agg #[.bool r1, .bool r2, .int .u64 r3, .slice z.1 r4.length z.2]) ∧ (∀ φ ∈ ([KC (Kd.int .u64) z.1 z.2 r4] : List (World → Prop)), FreshF w.heap.size w' φ) ∧ Below w.heap.size w w' := by
  refine (seq_Map_get.calls k A0_0 c0_0 l0_0 a1 r1 r2 r3 r4 w hf_l0_0.1 hf_l0_0.2 h).mono ?_
  rintro e w' ⟨v3_, rfl, hr0, hb⟩
  obtain ⟨A0_, c0_, rfl, hf0_⟩ := R_fresh hr0
  refine ⟨(A0_, c0_), rfl, fun φ hφ => ?_, hb⟩
  simp only [List.mem_cons, List.not_mem_nil, or_false] at hφ
  rcases hφ with rfl
  · exact hf0_

theorem seq_Pair_29.con (A0 : Option Addr) (c0 : Nat) (l0 : List (S52)) (r : List (S52)) (h : seq_Pair_29.f l0 = some r) (w : World) (hf_l0 : KC k52 A0 c0 l0 w) : Calls Try.prog 29 #[.slice A0 l0.length c0] w fun e w' => ∃ z : (Option Addr × Nat), e = .returned (.slice z.1 r.length z.2) ∧ (∀ φ ∈ ([KC k52 z.1 z.2 r] : List (World → Prop)), FreshF w.heap.size w' φ) ∧ Below w.heap.size w w' := by
  refine (seq_Pair_29.calls A0 c0 l0 r w hf_l0.1 hf_l0.2 h).mono ?_
  rintro e w' ⟨v0_, rfl, hr0, hb⟩
  obtain ⟨A0_, c0_, rfl, hf0_⟩ := R_fresh hr0
  refine ⟨(A0_, c0_), rfl, fun φ hφ => ?_, hb⟩
  simp only [List.mem_cons, List.not_mem_nil, or_false] at hφ
  rcases hφ with rfl
  · exact hf0_

theorem seq_Map_without.con (k : Nat) (A0_0 : Option Addr) (c0_0 : Nat) (l0_0 : List S52) (a1 : Int) (r1 : List S52) (r2 : Int) (h : seq_Map_without.f k l0_0 a1 = some (r1, r2)) (w : World) (hf_l0_0 : KC k52 A0_0 c0_0 l0_0 w) : Calls Try.prog 24 #[.agg #[.slice A0_0 l0_0.length c0_0], .int .u64 a1] w fun e w' => ∃ z : (Option Addr × Nat), e = .returned (.tuple #[.agg #[.slice z.1 r1.length z.2], .int .i64 r2]) ∧ (∀ φ ∈ ([KC k52 z.1 z.2 r1] : List (World → Prop)), FreshF w.heap.size w' φ) ∧ Below w.heap.size w w' := by
  refine (seq_Map_without.calls k A0_0 c0_0 l0_0 a1 r1 r2 w hf_l0_0.1 hf_l0_0.2 h).mono ?_
  rintro e w' ⟨v0_, rfl, hr0, hb⟩
  obtain ⟨A0_, c0_, rfl, hf0_⟩ := R_fresh hr0
  refine ⟨(A0_, c0_), rfl, fun φ hφ => ?_, hb⟩
  simp only [List.mem_cons, List.not_mem_nil, or_false] at hφ
  rcases hφ with rfl
  · exact hf0_

theorem seq_Map_with.con (k : Nat) (A0_0 : Option Addr) (c0_0 : Nat) (l0_0 : List S52) (a1_0 a1_1 : Int) (r1 : List S52) (h : seq_Map_with.f k l0_0 a1_0 a1_1 = some r1) (w : World) (hf_l0_0 : KC k52 A0_0 c0_0 l0_0 w) : Calls Try.prog 23 #[.agg #[.slice A0_0 l0_0.length c0_0], .agg #[.int .u64 a1_0, .int .u64 a1_1]] w fun e w' => ∃ z : (Option Addr × Nat), e = .returned (.agg #[.slice z.1 r1.length z.2]) ∧ (∀ φ ∈ ([KC k52 z.1 z.2 r1] : List (World → Prop)), FreshF w.heap.size w' φ) ∧ Below w.heap.size w w' := by
  refine (seq_Map_with.calls k A0_0 c0_0 l0_0 a1_0 a1_1 r1 w hf_l0_0.1 hf_l0_0.2 h).mono ?_
  rintro e w' ⟨v0_, rfl, hr0, hb⟩
  obtain ⟨A0_, c0_, rfl, hf0_⟩ := R_fresh hr0
  refine ⟨(A0_, c0_), rfl, fun φ hφ => ?_, hb⟩
  simp only [List.mem_cons, List.not_mem_nil, or_false] at hφ
  rcases hφ with rfl
  · exact hf0_

theorem seq_Map_Pairs.con (A0_0 : Option Addr) (c0_0 : Nat) (l0_0 : List (S52)) (r : List (S52)) (h : seq_Map_Pairs.f l0_0 = some r) (w : World) (hf_l0_0 : KC k52 A0_0 c0_0 l0_0 w) : Calls Try.prog 16 #[.agg #[.slice A0_0 l0_0.length c0_0]] w fun e w' => ∃ z : (Option Addr × Nat), e = .returned (.slice z.1 r.length z.2) ∧ (∀ φ ∈ ([KC k52 z.1 z.2 r] : List (World → Prop)), FreshF w.heap.size w' φ) ∧ Below w.heap.size w w' := by
  refine (seq_Map_Pairs.calls A0_0 c0_0 l0_0 r w hf_l0_0.1 hf_l0_0.2 h).mono ?_
  rintro e w' ⟨v0_, rfl, hr0, hb⟩
  obtain ⟨A0_, c0_, rfl, hf0_⟩ := R_fresh hr0
  refine ⟨(A0_, c0_), rfl, fun φ hφ => ?_, hb⟩
  simp only [List.mem_cons, List.not_mem_nil, or_false] at hφ
  rcases hφ with rfl
  · exact hf0_

theorem slices_Equal_uint64_uint64.con (k : Nat) (A0 : Option Addr) (c0 : Nat) (l0 : List Int) (A1 : Option Addr) (c1 : Nat) (l1 : List Int) (r : Bool) (h : slices_Equal_uint64_uint64.f k l0 l1 = some r) (w : World) (hf_l0 : KC (Kd.int .u64) A0 c0 l0 w) (hf_l1 : KC (Kd.int .u64) A1 c1 l1 w) : Calls Try.prog 30 #[.slice A0 l0.length c0, .slice A1 l1.length c1] w fun e w' => ∃ z : Unit, e = .returned (.bool r) ∧ (∀ φ ∈ ([] : List (World → Prop)), FreshF w.heap.size w' φ) ∧ Below w.heap.size w w' := by
  refine (slices_Equal_uint64_uint64.calls k A0 c0 l0 A1 c1 l1 r w hf_l0.1 hf_l0.2 hf_l1.1 hf_l1.2 h).mono ?_
  rintro e w' ⟨rfl, hb⟩
  exact ⟨(), rfl, fun _ h => (by cases h), hb.below⟩

theorem seq_Same.con (k : Nat) (a0_0 : Bool) (a0_1 : Bool) (a0_2 : Int) (A0_3 : Option Addr) (c0_3 : Nat) (l0_3 : List Int) (a1_0 : Bool) (a1_1 : Bool) (a1_2 : Int) (A1_3 : Option Addr) (c1_3 : Nat) (l1_3 : List Int) (r : Bool) (h : seq_Same.f k a0_0 a0_1 a0_2 l0_3 a1_0 a1_1 a1_2 l1_3 = some r) (w : World) (hf_l0_3 : KC (Kd.int .u64) A0_3 c0_3 l0_3 w) (hf_l1_3 : KC (Kd.int .u64) A1_3 c1_3 l1_3 w) : Calls Try.prog 17 #[.agg #[.bool a0_0, .bool a0_1, .int .u64 a0_2, .slice A0_3 l0_3.length c0_3], .agg #[.bool a1_0, .bool a1_1, .int .u64 a1_2, .slice A1_3 l1_3.length c1_3]] w fun e w' => ∃ z : Unit, e = .returned (.bool r) ∧ (∀ φ ∈ ([] : List (World → Prop)), FreshF w.heap.size w' φ) ∧ Below w.heap.size w w' := by
  refine (seq_Same.calls k a0_0 a0_1 a0_2 A0_3 c0_3 l0_3 a1_0 a1_1 a1_2 A1_3 c1_3 l1_3 r w hf_l0_3.1 hf_l0_3.2 hf_l1_3.1 hf_l1_3.2 h).mono ?_
  rintro e w' ⟨rfl, hb⟩
  exact ⟨(), rfl, fun _ h => (by cases h), hb⟩

theorem seq_Of.con (k : Nat) (A0 : Option Addr) (c0 : Nat) (l0 : List (S52)) (r : List (S52)) (h : seq_Of.f k l0 = some r) (w : World) (hf_l0 : KC k52 A0 c0 l0 w) : Calls Try.prog 18 #[.slice A0 l0.length c0] w fun e w' => ∃ z : (Option Addr × Nat), e = .returned (.agg #[.slice z.1 r.length z.2]) ∧ (∀ φ ∈ ([KC k52 z.1 z.2 r] : List (World → Prop)), FreshF w.heap.size w' φ) ∧ Below w.heap.size w w' := by
  refine (seq_Of.calls k A0 c0 l0 r w hf_l0.1 hf_l0.2 h).mono ?_
  rintro e w' ⟨v0_, rfl, hr0, hb⟩
  obtain ⟨A0_, c0_, rfl, hf0_⟩ := R_fresh hr0
  refine ⟨(A0_, c0_), rfl, fun φ hφ => ?_, hb⟩
  simp only [List.mem_cons, List.not_mem_nil, or_false] at hφ
  rcases hφ with rfl
  · exact hf0_

theorem stepstoneref07_get.con (k : Nat) (A0 : Option Addr) (c0 : Nat) (l0 : List (S62)) (a1 : Int) (r1 : Bool) (r2 : Bool) (r3 : Int) (r4 : List Int) (h : stepstoneref07_get.f k l0 a1 = some (r1, r2, r3, r4)) (w : World) (hf_l0 : KC k62 A0 c0 l0 w) : Calls Try.prog 26 #[.slice A0 l0.length c0, .int .u64 a1] w fun e w' => ∃ z : (Option Addr × Nat), e = .returned (.agg #[.bool r1, .bool r2, .int .u64 r3, .slice z.1 r4.length z.2]) ∧ (∀ φ ∈ ([KC (Kd.int .u64) z.1 z.2 r4] : List (World → Prop)), FreshF w.heap.size w' φ) ∧ Below w.heap.size w w' := by
  refine (stepstoneref07_get.calls k A0 c0 l0 a1 r1 r2 r3 r4 w hf_l0.1 hf_l0.2 h).mono ?_
  rintro e w' ⟨v3_, rfl, hr0, hb⟩
  obtain ⟨A0_, c0_, rfl, hf0_⟩ := R_fresh hr0
  refine ⟨(A0_, c0_), rfl, fun φ hφ => ?_, hb⟩
  simp only [List.mem_cons, List.not_mem_nil, or_false] at hφ
  rcases hφ with rfl
  · exact hf0_

theorem stepstoneref07_With.con (k : Nat) (A0 : Option Addr) (c0 : Nat) (l0 : List (S62)) (a1_0 : Int) (a1_1 : Int) (r : List (S62)) (h : stepstoneref07_With.f k l0 a1_0 a1_1 = some r) (w : World) (hf_l0 : KC k62 A0 c0 l0 w) : Calls Try.prog 27 #[.slice A0 l0.length c0, .agg #[.int .u64 a1_0, .int .u64 a1_1]] w fun e w' => ∃ z : (Option Addr × Nat), e = .returned (.slice z.1 r.length z.2) ∧ (∀ φ ∈ ([KC k62 z.1 z.2 r] : List (World → Prop)), FreshF w.heap.size w' φ) ∧ Below w.heap.size w w' := by
  refine (stepstoneref07_With.calls k A0 c0 l0 a1_0 a1_1 r w hf_l0.1 hf_l0.2 h).mono ?_
  rintro e w' ⟨v0_, rfl, hr0, hb⟩
  obtain ⟨A0_, c0_, rfl, hf0_⟩ := R_fresh hr0
  refine ⟨(A0_, c0_), rfl, fun φ hφ => ?_, hb⟩
  simp only [List.mem_cons, List.not_mem_nil, or_false] at hφ
  rcases hφ with rfl
  · exact hf0_

theorem stepstoneref07_Without.con (k : Nat) (A0 : Option Addr) (c0 : Nat) (l0 : List (S62)) (a1 : Int) (r : List (S62)) (h : stepstoneref07_Without.f k l0 a1 = some r) (w : World) (hf_l0 : KC k62 A0 c0 l0 w) : Calls Try.prog 28 #[.slice A0 l0.length c0, .int .u64 a1] w fun e w' => ∃ z : (Option Addr × Nat), e = .returned (.slice z.1 r.length z.2) ∧ (∀ φ ∈ ([KC k62 z.1 z.2 r] : List (World → Prop)), FreshF w.heap.size w' φ) ∧ Below w.heap.size w w' := by
  refine (stepstoneref07_Without.calls k A0 c0 l0 a1 r w hf_l0.1 hf_l0.2 h).mono ?_
  rintro e w' ⟨v0_, rfl, hr0, hb⟩
  obtain ⟨A0_, c0_, rfl, hf0_⟩ := R_fresh hr0
  refine ⟨(A0_, c0_), rfl, fun φ hφ => ?_, hb⟩
  simp only [List.mem_cons, List.not_mem_nil, or_false] at hφ
  rcases hφ with rfl
  · exact hf0_

theorem stepstoneref07_Same.con (k : Nat) (a0_0 : Bool) (a0_1 : Bool) (a0_2 : Int) (A0_3 : Option Addr) (c0_3 : Nat) (l0_3 : List Int) (a1_0 : Bool) (a1_1 : Bool) (a1_2 : Int) (A1_3 : Option Addr) (c1_3 : Nat) (l1_3 : List Int) (r : Bool) (h : stepstoneref07_Same.f k a0_0 a0_1 a0_2 l0_3 a1_0 a1_1 a1_2 l1_3 = some r) (w : World) (hf_l0_3 : KC (Kd.int .u64) A0_3 c0_3 l0_3 w) (hf_l1_3 : KC (Kd.int .u64) A1_3 c1_3 l1_3 w) : Calls Try.prog 13 #[.agg #[.bool a0_0, .bool a0_1, .int .u64 a0_2, .slice A0_3 l0_3.length c0_3], .agg #[.bool a1_0, .bool a1_1, .int .u64 a1_2, .slice A1_3 l1_3.length c1_3]] w fun e w' => ∃ z : Unit, e = .returned (.bool r) ∧ (∀ φ ∈ ([] : List (World → Prop)), FreshF w.heap.size w' φ) ∧ Below w.heap.size w w' := by
  refine (stepstoneref07_Same.calls k a0_0 a0_1 a0_2 A0_3 c0_3 l0_3 a1_0 a1_1 a1_2 A1_3 c1_3 l1_3 r w hf_l0_3.1 hf_l0_3.2 hf_l1_3.1 hf_l1_3.2 h).mono ?_
  rintro e w' ⟨rfl, hb⟩
  exact ⟨(), rfl, fun _ h => (by cases h), hb⟩

theorem stepstoneref07_Equal.con (k : Nat) (A0 : Option Addr) (c0 : Nat) (l0 : List (S62)) (A1 : Option Addr) (c1 : Nat) (l1 : List (S62)) (r : Bool) (h : stepstoneref07_Equal.f k l0 l1 = some r) (w : World) (hf_l0 : KC k62 A0 c0 l0 w) (hf_l1 : KC k62 A1 c1 l1 w) : Calls Try.prog 14 #[.slice A0 l0.length c0, .slice A1 l1.length c1] w fun e w' => ∃ z : Unit, e = .returned (.bool r) ∧ (∀ φ ∈ ([] : List (World → Prop)), FreshF w.heap.size w' φ) ∧ Below w.heap.size w w' := by
  refine (stepstoneref07_Equal.calls k A0 c0 l0 A1 c1 l1 r w hf_l0.1 hf_l0.2 hf_l1.1 hf_l1.2 h).mono ?_
  rintro e w' ⟨rfl, hb⟩
  exact ⟨(), rfl, fun _ h => (by cases h), hb.below⟩

theorem stepstoneref07_Of.con (k : Nat) (A0 : Option Addr) (c0 : Nat) (l0 : List (S62)) (r : List (S62)) (h : stepstoneref07_Of.f k l0 = some r) (w : World) (hf_l0 : KC k62 A0 c0 l0 w) : Calls Try.prog 20 #[.slice A0 l0.length c0] w fun e w' => ∃ z : (Option Addr × Nat), e = .returned (.slice z.1 r.length z.2) ∧ (∀ φ ∈ ([KC k62 z.1 z.2 r] : List (World → Prop)), FreshF w.heap.size w' φ) ∧ Below w.heap.size w w' := by
  refine (stepstoneref07_Of.calls k A0 c0 l0 r w hf_l0.1 hf_l0.2 h).mono ?_
  rintro e w' ⟨v0_, rfl, hr0, hb⟩
  obtain ⟨A0_, c0_, rfl, hf0_⟩ := R_fresh hr0
  refine ⟨(A0_, c0_), rfl, fun φ hφ => ?_, hb⟩
  simp only [List.mem_cons, List.not_mem_nil, or_false] at hφ
  rcases hφ with rfl
  · exact hf0_

theorem stepstonelaw07_Olds.con (k : Nat) (A0 : Option Addr) (c0 : Nat) (l0 : List (S52)) (r : List (S62)) (h : stepstonelaw07_Olds.f k l0 = some r) (w : World) (hf_l0 : KC k52 A0 c0 l0 w) : Calls Try.prog 15 #[.slice A0 l0.length c0] w fun e w' => ∃ z : (Option Addr × Nat), e = .returned (.slice z.1 r.length z.2) ∧ (∀ φ ∈ ([KC k62 z.1 z.2 r] : List (World → Prop)), FreshF w.heap.size w' φ) ∧ Below w.heap.size w w' := by
  refine (stepstonelaw07_Olds.calls k A0 c0 l0 r w hf_l0.1 hf_l0.2 h).mono ?_
  rintro e w' ⟨v0_, rfl, hr0, hb⟩
  obtain ⟨A0_, c0_, rfl, hf0_⟩ := R_fresh hr0
  refine ⟨(A0_, c0_), rfl, fun φ hφ => ?_, hb⟩
  simp only [List.mem_cons, List.not_mem_nil, or_false] at hφ
  rcases hφ with rfl
  · exact hf0_

theorem stepstonelaw07_News.con (k : Nat) (A0 : Option Addr) (c0 : Nat) (l0 : List (S62)) (r : List (S52)) (h : stepstonelaw07_News.f k l0 = some r) (w : World) (hf_l0 : KC k62 A0 c0 l0 w) : Calls Try.prog 19 #[.slice A0 l0.length c0] w fun e w' => ∃ z : (Option Addr × Nat), e = .returned (.slice z.1 r.length z.2) ∧ (∀ φ ∈ ([KC k52 z.1 z.2 r] : List (World → Prop)), FreshF w.heap.size w' φ) ∧ Below w.heap.size w w' := by
  refine (stepstonelaw07_News.calls k A0 c0 l0 r w hf_l0.1 hf_l0.2 h).mono ?_
  rintro e w' ⟨v0_, rfl, hr0, hb⟩
  obtain ⟨A0_, c0_, rfl, hf0_⟩ := R_fresh hr0
  refine ⟨(A0_, c0_), rfl, fun φ hφ => ?_, hb⟩
  simp only [List.mem_cons, List.not_mem_nil, or_false] at hφ
  rcases hφ with rfl
  · exact hf0_

theorem stepstonelaw07_few.con (A0 : Option Addr) (c0 : Nat) (l0 : List (S31)) (r : Bool) (h : stepstonelaw07_few.f l0 = some r) (w : World) (hf_l0 : KC k31 A0 c0 l0 w) : Calls Try.prog 9 #[.slice A0 l0.length c0] w fun e w' => ∃ z : Unit, e = .returned (.bool r) ∧ (∀ φ ∈ ([] : List (World → Prop)), FreshF w.heap.size w' φ) ∧ Below w.heap.size w w' := by
  refine (stepstonelaw07_few.calls A0 c0 l0 r w hf_l0.1 hf_l0.2 h).mono ?_
  rintro e w' ⟨rfl, hb⟩
  exact ⟨(), rfl, fun _ h => (by cases h), hb.below⟩

end Go.Eng
