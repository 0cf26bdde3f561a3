/-
Each entry is in one of both, as often as it was. No condition.
-/
import Derived.Test.YtpppcicbkdafeabQCoverOnce
import Derived.Test.YtpppcicbkdafeabPlain06Once
namespace Go.Proofs.Ytpppcicbkdafeab.Pure
open Go.RowKit Go.Proofs.Ytpppcicbkdafeab.GOnce Go.Proofs.Ytpppcicbkdafeab.Plain06Once Go.Proofs.YtpppcicbkdafeabW.PrintWords Go.Proofs.YtpppcicbkdafeabW.PrintLast Go.Proofs.YtpppcicbkdafeabW.PrintMore

theorem CoverOnce : QCoverOnce.Pure := by
  intro l es e wl we wE
  refine ⟨2001, ?_⟩
  have ha : ∀ k, stepstonelaw06_CoverOnce.j0 (k + 1) l es true e.f0 e.f1 e.f2 = some true := by
    intro k; simp only [stepstonelaw06_CoverOnce.j0, if_true]; rw [Plain06Once.alive]; rfl
  unfold stepstonelaw06_CoverOnce.f
  by_cases c : (l.length : Int) > 100
  · rw [if_pos c]; exact ha 2000
  rw [if_neg c]
  by_cases c2 : (es.length : Int) > 100
  · rw [decide_eq_true c2]; exact ha 2000
  rw [decide_eq_false c2]
  obtain ⟨m, hm⟩ : ∃ m, m = l.map new := ⟨_, rfl⟩
  have hml : m.length = l.length := by rw [hm, List.length_map]
  obtain ⟨p, hp⟩ : ∃ p, p = isE e.f0 e.f1 e.f2 := ⟨_, rfl⟩
  have hlen : (m.filter (cov es)).length + (m.filter (fun x => !cov es x)).length = l.length := by
    rw [← hml, ← List.countP_eq_length_filter, ← List.countP_eq_length_filter]
    exact (List.length_eq_countP_add_countP (cov es) (l := m)).symm.trans rfl |>.symm ▸ by simp [Bool.not_eq_true]
  have hcnt : (m.filter (cov es)).countP p + (m.filter (fun x => !cov es x)).countP p = m.countP p := by
    clear hm hml hlen
    induction m with
    | nil => rfl
    | cons x xs ih =>
      by_cases h1 : cov es x = true
      · by_cases h2 : p x = true <;> simp [h1, h2] <;> omega
      · by_cases h2 : p x = true <;> simp [h1, h2] <;> omega
  have hz : (m.filter (cov es)).countP p = 0 ∨ (m.filter (fun x => !cov es x)).countP p = 0 := by
    have same : ∀ x y, p x = true → p y = true → cov es x = cov es y := by
      intro x y hx hy
      rw [hp] at hx hy
      unfold isE at hx hy
      simp only [Bool.and_eq_true, beq_iff_eq] at hx hy
      unfold cov
      rw [hx.2.1, hx.2.2, hy.2.1, hy.2.2]
    by_cases h : ∃ x, x ∈ m.filter (cov es) ∧ p x = true
    · obtain ⟨x, hx, px⟩ := h
      refine .inr (List.countP_eq_zero.2 fun y hy py => ?_)
      have h1 := (List.mem_filter.1 hx).2
      have h2 := (List.mem_filter.1 hy).2
      rw [same y x py px, h1] at h2
      exact Bool.noConfusion h2
    · exact .inl (List.countP_eq_zero.2 fun y hy py => h ⟨y, hy, py⟩)
  have hA := List.countP_le_length (p := p) (l := m.filter (cov es))
  have hB := List.countP_le_length (p := p) (l := m.filter (fun x => !cov es x))
  have w1 : wrap64 (((m.filter (cov es)).length : Int) + ((m.filter (fun x => !cov es x)).length : Int)) = (l.length : Int) := by unfold wrap64; omega
  have w2 : wrap64 (((m.filter (cov es)).countP p : Int) + ((m.filter (fun x => !cov es x)).countP p : Int)) = ((m.countP p : Nat) : Int) := by unfold wrap64; omega
  have cnt : ∀ z : List S28, z.length ≤ 1000 → stepstonelaw06_CoverOnce_1.f z e.f0 e.f1 e.f2 = some ((z.countP p : Nat) : Int) := by
    intro z h; unfold stepstonelaw06_CoverOnce_1.f; rw [if_pos h, hp]
  have hj : ∀ k, stepstonelaw06_CoverOnce.j0 (k + 1) l es false e.f0 e.f1 e.f2 = some true ↔ _ := fun k => by
    simp only [stepstonelaw06_CoverOnce.j0]; rw [if_neg Bool.false_ne_true]
  refine (hj 2000).2 ?_
  rw [news l (by omega) 2000 (by omega), Option.bind_some, ← hm, split m es (by omega) (by omega) 2000 (by omega), Option.bind_some, Plain06Once.alive, Option.bind_some, if_pos rfl]
  have cA := cnt (m.filter (cov es)) (by omega)
  have cB := cnt (m.filter (fun x => !cov es x)) (by omega)
  have cM := cnt m (by omega)
  dsimp only
  rw [if_pos w1, cA, Option.bind_some, cB, Option.bind_some, Option.bind_some, cM, Option.bind_some, if_pos w2, Option.bind_some]
  by_cases e0 : ((List.countP p (m.filter (cov es)) : Nat) : Int) = 0
  · rw [if_pos e0]
  · rw [if_neg e0]
    rcases hz with h | h
    · exact absurd (by rw [h]; rfl) e0
    · rw [h]; rfl
end Go.Proofs.Ytpppcicbkdafeab.Pure
