/-
An entry that was born behind all eras, or retired ahead of all, is not covered; one that lived in one of them is. No condition.
-/
import Derived.Test.YtpppcicbkdafeabQCoverLate
import Derived.Test.YtpppcicbkdafeabPlain06
namespace Go.Proofs.Ytpppcicbkdafeab.Pure
open Go.RowKit Go.Proofs.Ytpppcicbkdafeab.GCover Go.Proofs.Ytpppcicbkdafeab.Plain06 Go.Proofs.YtpppcicbkdafeabW.PrintWords Go.Proofs.YtpppcicbkdafeabW.PrintLast Go.Proofs.YtpppcicbkdafeabW.PrintMore

/-- How the law ends, behind its loop. -/
theorem ending (es : List Int) (he : es.length ≤ 100) (n b r at_ : Int) (late early : Bool) (k : Nat) (hl : late = true → ∀ x ∈ es, x < b) (hea : early = true → ∀ x ∈ es, x > r) :
    stepstonelaw06_CoverLate.l0 (k + 1) es at_ late early es (es.length : Int) (es.length : Int) n b r = some true := by
  simp only [stepstonelaw06_CoverLate.l0]
  rw [if_neg (by omega), covered es _ _ _ (by omega), Option.bind_some, Plain06.alive]
  have key : (late = true ∨ early = true) → es.any (covB b r) = false := by
    intro h
    rw [List.any_eq_false]
    intro x hx hc
    obtain ⟨_, h1, h2⟩ := covB_true hc
    rcases h with h | h
    · have := hl h x hx; omega
    · have := hea h x hx; omega
  have fin : (if late = true then some (!es.any (covB b r)) else (if early = true then some (!es.any (covB b r)) else some true)) = some true := by
    by_cases h1 : late = true
    · rw [if_pos h1, key (.inl h1)]; rfl
    · rw [if_neg h1]
      by_cases h2 : early = true
      · rw [if_pos h2, key (.inr h2)]; rfl
      · rw [if_neg h2]
  simp only [Option.bind_some, if_true]
  simp only [fin]
  by_cases a0 : at_ ≥ 0
  · by_cases a1 : at_ < (es.length : Int)
    · by_cases c1 : rd es at_ = 0
      · simp [a0, a1, c1]
      · by_cases c2 : rd es at_ ≥ b
        · by_cases c3 : rd es at_ ≤ r
          · have : es.any (covB b r) = true := by
              rw [List.any_eq_true]
              refine ⟨rd es at_, ?_, by unfold covB; simp [c1, c2, c3]⟩
              have hlt : at_.toNat < es.length := by omega
              unfold rd
              rw [List.getD_eq_getElem?_getD, List.getElem?_eq_getElem hlt]
              exact List.getElem_mem hlt
            simp [a0, a1, c1, c2, c3, this]
          · simp [a0, a1, c1, c2, c3]
        · simp [a0, a1, c1, c2]
    · simp [a0, a1]
  · simp [a0]
theorem loop (es : List Int) (he : es.length ≤ 100) (n b r at_ : Int) (d : Nat) : ∀ (k : Nat) (i : Int) (late early : Bool), 0 ≤ i → i ≤ es.length → (es.length : Int) - i = d → d < k → (late = true → ∀ x ∈ es.take i.toNat, x < b) → (early = true → ∀ x ∈ es.take i.toNat, x > r) →
    stepstonelaw06_CoverLate.l0 k es at_ late early es (es.length : Int) i n b r = some true := by
  induction d with
  | zero =>
    intro k i late early h0 h1 hd hk hl hea
    obtain ⟨k, rfl⟩ : ∃ m, k = m + 1 := ⟨k - 1, by omega⟩
    obtain rfl : i = es.length := by omega
    exact ending es he n b r at_ late early k (by simpa using hl) (by simpa using hea)
  | succ d ih =>
    intro k i late early h0 h1 hd hk hl hea
    obtain ⟨k, rfl⟩ : ∃ m, k = m + 1 := ⟨k - 1, by omega⟩
    have ht : es.take (i + 1).toNat = es.take i.toNat ++ [rd es i] := by
      have hlt : i.toNat < es.length := by omega
      rw [show (i + 1).toNat = i.toNat + 1 by omega, List.take_succ_eq_append_getElem hlt]
      unfold rd
      rw [List.getD_eq_getElem?_getD, List.getElem?_eq_getElem hlt]; rfl
    have next : ∀ late' early', (late' = true → late = true ∧ rd es i < b) → (early' = true → early = true ∧ rd es i > r) → stepstonelaw06_CoverLate.l0 k es at_ late' early' es (es.length : Int) (i + 1) n b r = some true := by
      intro late' early' g1 g2
      refine ih k (i + 1) late' early' (by omega) (by omega) (by omega) (by omega) ?_ ?_
      · intro h x hx
        rw [ht, List.mem_append, List.mem_singleton] at hx
        rcases hx with hx | rfl
        · exact hl (g1 h).1 x hx
        · exact (g1 h).2
      · intro h x hx
        rw [ht, List.mem_append, List.mem_singleton] at hx
        rcases hx with hx | rfl
        · exact hea (g2 h).1 x hx
        · exact (g2 h).2
    simp only [stepstonelaw06_CoverLate.l0]
    rw [if_pos (by omega), if_pos h0, if_pos (by omega), w64 h0 (by omega)]
    cases late <;> cases early <;> simp only [Bool.false_eq_true, if_false, if_true] <;> exact next _ _ (by simp) (by simp)
theorem CoverLate : QCoverLate.Pure := by
  intro a es at_ wa we wat
  refine ⟨200, ?_⟩
  unfold stepstonelaw06_CoverLate.f
  by_cases c : (es.length : Int) > 100
  · rw [if_pos c, Plain06.alive]; rfl
  · rw [if_neg c]
    exact loop es (by omega) _ _ _ at_ es.length 200 0 true true (by omega) (by omega) (by omega) (by omega) (by simp) (by simp)
end Go.Proofs.Ytpppcicbkdafeab.Pure
