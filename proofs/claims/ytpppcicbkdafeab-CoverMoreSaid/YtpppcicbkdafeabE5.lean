/- Own text, written by an own program: E5. -/
import Derived.Test.YtpppcicbkdafeabET
import Derived.Test.YtpppcicbkdafeabGCoverx0
import Derived.Test.YtpppcicbkdafeabGCoverx1
import Derived.Test.YtpppcicbkdafeabGCoverx2
import Derived.Test.YtpppcicbkdafeabGCoverx3
import Derived.Test.YtpppcicbkdafeabGCoverx4
import Derived.Test.YtpppcicbkdafeabGCoverx5
import Derived.Test.YtpppcicbkdafeabGCoverx6
namespace Go.Eng
open Go.Proofs Go.RowKit Go.Proofs.YtpppcicbkdafeabW.PrintWords Go.Proofs.Ytpppcicbkdafeab.GCover
set_option linter.unusedVariables false
theorem cover_Covered.con (a0_0 : Int) (a0_1 : Int) (a0_2 : Int) (A1 : Option Addr) (c1 : Nat) (l1 : List Int) (r : Bool) (h : cover_Covered.f a0_0 a0_1 a0_2 l1 = some r) (w : World) (hf_l1 : KC (Kd.int .u64) A1 c1 l1 w) : Calls Try.prog 10 #[.agg #[.int .u64 a0_0, .int .u64 a0_1, .int .u64 a0_2], .slice A1 l1.length c1] w fun e w' => ∃ z : Unit, e = .returned (.bool r) ∧ (∀ φ ∈ ([] : List (World → Prop)), FreshF w.heap.size w' φ) ∧ Below w.heap.size w w' := by
  refine (cover_Covered.calls a0_0 a0_1 a0_2 A1 c1 l1 r w hf_l1.1 hf_l1.2 h).mono ?_
  rintro e w' ⟨rfl, hb⟩
  exact ⟨(), rfl, fun _ h => (by cases h), hb⟩

theorem cover_Oldest.con (k : Nat) (A0 : Option Addr) (c0 : Nat) (l0 : List (S28)) (r1 : Int) (r2 : Bool) (h : cover_Oldest.f k l0 = some (r1, r2)) (w : World) (hf_l0 : KC k28 A0 c0 l0 w) : Calls Try.prog 18 #[.slice A0 l0.length c0] w fun e w' => ∃ z : Unit, e = .returned (.tuple #[.int .u64 r1, .bool r2]) ∧ (∀ φ ∈ ([] : List (World → Prop)), FreshF w.heap.size w' φ) ∧ Below w.heap.size w w' := by
  refine (cover_Oldest.calls k A0 c0 l0 r1 r2 w hf_l0.1 hf_l0.2 h).mono ?_
  rintro e w' ⟨rfl, hb⟩
  exact ⟨(), rfl, fun _ h => (by cases h), hb⟩

theorem stepstonelaw06_alive_t.con (k : Nat) (r : Bool) (hr_ : Aside0 (r = true)) (h : stepstonelaw06_alive_t.f k  = some r) (w : World)  : Calls Try.prog 9 #[] w fun e w' => ∃ z : Unit, e = .returned (.bool r) ∧ (∀ φ ∈ ([] : List (World → Prop)), FreshF w.heap.size w' φ) ∧ Below w.heap.size w w' := by
  refine (stepstonelaw06_alive_t.calls k r w h hr_).mono ?_
  rintro e w' ⟨rfl, hb⟩
  exact ⟨(), rfl, fun _ h => (by cases h), hb⟩

theorem stepstoneref06_Covered.con (k : Nat) (a0_0 : Int) (a0_1 : Int) (a0_2 : Int) (A1 : Option Addr) (c1 : Nat) (l1 : List Int) (r : Bool) (h : stepstoneref06_Covered.f k a0_0 a0_1 a0_2 l1 = some r) (w : World) (hf_l1 : KC (Kd.int .u64) A1 c1 l1 w) : Calls Try.prog 11 #[.agg #[.int .u64 a0_0, .int .u64 a0_1, .int .u64 a0_2], .slice A1 l1.length c1] w fun e w' => ∃ z : Unit, e = .returned (.bool r) ∧ (∀ φ ∈ ([] : List (World → Prop)), FreshF w.heap.size w' φ) ∧ Below w.heap.size w w' := by
  refine (stepstoneref06_Covered.calls k a0_0 a0_1 a0_2 A1 c1 l1 r w hf_l1.1 hf_l1.2 h).mono ?_
  rintro e w' ⟨rfl, hb⟩
  exact ⟨(), rfl, fun _ h => (by cases h), hb⟩

theorem stepstonelaw06_CoverAll.con (k : Nat) (a0_0 : Int) (a0_1 : Int) (a0_2 : Int) (A1 : Option Addr) (c1 : Nat) (l1 : List Int) (r : Bool) (h : stepstonelaw06_CoverAll.f k a0_0 a0_1 a0_2 l1 = some r) (w : World) (hf_l1 : KC (Kd.int .u64) A1 c1 l1 w) : Calls Try.prog 3 #[.agg #[.int .u64 a0_0, .int .u64 a0_1, .int .u64 a0_2], .slice A1 l1.length c1] w fun e w' => ∃ z : Unit, e = .returned (.bool r) ∧ (∀ φ ∈ ([] : List (World → Prop)), FreshF w.heap.size w' φ) ∧ Below w.heap.size w w' := by
  refine (stepstonelaw06_CoverAll.calls k a0_0 a0_1 a0_2 A1 c1 l1 r w hf_l1.1 hf_l1.2 h).mono ?_
  rintro e w' ⟨rfl, hb⟩
  exact ⟨(), rfl, fun _ h => (by cases h), hb⟩

theorem stepstonelaw06_News.con (k : Nat) (A0 : Option Addr) (c0 : Nat) (l0 : List (S24)) (r : List (S28)) (h : stepstonelaw06_News.f k l0 = some r) (w : World) (hf_l0 : KC k24 A0 c0 l0 w) : Calls Try.prog 12 #[.slice A0 l0.length c0] w fun e w' => ∃ z : (Option Addr × Nat), e = .returned (.slice z.1 r.length z.2) ∧ (∀ φ ∈ ([KC k28 z.1 z.2 r] : List (World → Prop)), FreshF w.heap.size w' φ) ∧ Below w.heap.size w w' := by
  refine (stepstonelaw06_News.calls k A0 c0 l0 r w hf_l0.1 hf_l0.2 h).mono ?_
  rintro e w' ⟨v0_, rfl, hr0, hb⟩
  obtain ⟨A0_, c0_, rfl, hf0_⟩ := R_fresh hr0
  refine ⟨(A0_, c0_), rfl, fun φ hφ => ?_, hb⟩
  simp only [List.mem_cons, List.not_mem_nil, or_false] at hφ
  rcases hφ with rfl
  · exact hf0_

theorem stepstoneref06_Same.con (k : Nat) (A0 : Option Addr) (c0 : Nat) (l0 : List (S24)) (A1 : Option Addr) (c1 : Nat) (l1 : List (S24)) (r : Bool) (h : stepstoneref06_Same.f k l0 l1 = some r) (w : World) (hf_l0 : KC k24 A0 c0 l0 w) (hf_l1 : KC k24 A1 c1 l1 w) : Calls Try.prog 14 #[.slice A0 l0.length c0, .slice A1 l1.length c1] w fun e w' => ∃ z : Unit, e = .returned (.bool r) ∧ (∀ φ ∈ ([] : List (World → Prop)), FreshF w.heap.size w' φ) ∧ Below w.heap.size w w' := by
  refine (stepstoneref06_Same.calls k A0 c0 l0 A1 c1 l1 r w hf_l0.1 hf_l0.2 hf_l1.1 hf_l1.2 h).mono ?_
  rintro e w' ⟨rfl, hb⟩
  exact ⟨(), rfl, fun _ h => (by cases h), hb.below⟩

theorem stepstonelaw06_Olds.con (k : Nat) (A0 : Option Addr) (c0 : Nat) (l0 : List (S28)) (r : List (S24)) (h : stepstonelaw06_Olds.f k l0 = some r) (w : World) (hf_l0 : KC k28 A0 c0 l0 w) : Calls Try.prog 15 #[.slice A0 l0.length c0] w fun e w' => ∃ z : (Option Addr × Nat), e = .returned (.slice z.1 r.length z.2) ∧ (∀ φ ∈ ([KC k24 z.1 z.2 r] : List (World → Prop)), FreshF w.heap.size w' φ) ∧ Below w.heap.size w w' := by
  refine (stepstonelaw06_Olds.calls k A0 c0 l0 r w hf_l0.1 hf_l0.2 h).mono ?_
  rintro e w' ⟨v0_, rfl, hr0, hb⟩
  obtain ⟨A0_, c0_, rfl, hf0_⟩ := R_fresh hr0
  refine ⟨(A0_, c0_), rfl, fun φ hφ => ?_, hb⟩
  simp only [List.mem_cons, List.not_mem_nil, or_false] at hφ
  rcases hφ with rfl
  · exact hf0_

theorem stepstoneref06_Split.con (k : Nat) (A0 : Option Addr) (c0 : Nat) (l0 : List (S24)) (A1 : Option Addr) (c1 : Nat) (l1 : List Int) (a2 : Bool) (r : List (S24)) (h : stepstoneref06_Split.f k l0 l1 a2 = some r) (w : World) (hf_l0 : KC k24 A0 c0 l0 w) (hf_l1 : KC (Kd.int .u64) A1 c1 l1 w) : Calls Try.prog 16 #[.slice A0 l0.length c0, .slice A1 l1.length c1, .bool a2] w fun e w' => ∃ z : (Option Addr × Nat), e = .returned (.slice z.1 r.length z.2) ∧ (∀ φ ∈ ([KC k24 z.1 z.2 r] : List (World → Prop)), FreshF w.heap.size w' φ) ∧ Below w.heap.size w w' := by
  refine (stepstoneref06_Split.calls k A0 c0 l0 A1 c1 l1 a2 r w hf_l0.1 hf_l0.2 hf_l1.1 hf_l1.2 h).mono ?_
  rintro e w' ⟨v0_, rfl, hr0, hb⟩
  obtain ⟨A0_, c0_, rfl, hf0_⟩ := R_fresh hr0
  refine ⟨(A0_, c0_), rfl, fun φ hφ => ?_, hb⟩
  simp only [List.mem_cons, List.not_mem_nil, or_false] at hφ
  rcases hφ with rfl
  · exact hf0_

theorem stepstonelaw06_CoverSplits.con (k : Nat) (A0 : Option Addr) (c0 : Nat) (l0 : List (S24)) (A1 : Option Addr) (c1 : Nat) (l1 : List Int) (r : Bool) (h : stepstonelaw06_CoverSplits.f k l0 l1 = some r) (w : World) (hf_l0 : KC k24 A0 c0 l0 w) (hf_l1 : KC (Kd.int .u64) A1 c1 l1 w) : Calls Try.prog 4 #[.slice A0 l0.length c0, .slice A1 l1.length c1] w fun e w' => ∃ z : Unit, e = .returned (.bool r) ∧ (∀ φ ∈ ([] : List (World → Prop)), FreshF w.heap.size w' φ) ∧ Below w.heap.size w w' := by
  refine (stepstonelaw06_CoverSplits.calls k A0 c0 l0 A1 c1 l1 r w hf_l0.1 hf_l0.2 hf_l1.1 hf_l1.2 h).mono ?_
  rintro e w' ⟨rfl, hb⟩
  exact ⟨(), rfl, fun _ h => (by cases h), hb⟩

end Go.Eng
