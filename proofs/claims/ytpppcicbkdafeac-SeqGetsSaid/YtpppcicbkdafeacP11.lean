/- Own text, written by an own program: P11. -/
import Derived.Test.YtpppcicbkdafeacR2
namespace Go.Eng
open Go.Proofs Go.RowKit Go.Proofs.YtpppcicbkdafeacW.PrintWords Go.Proofs.Ytpppcicbkdafeac.GSeq
set_option linter.unusedVariables false
set_option linter.unusedSimpArgs false
theorem getM_keys (l : List S52) (k : Int) : (getM l k).2.2.2 = [] := by unfold getM; split <;> rfl
theorem ceilM_keys (l : List S52) (k : Int) : (ceilM l k).2.2.2 = [] := by unfold ceilM; split <;> rfl
theorem Dm_facts {l : List S52} (hs : Srt l) {o0 o1 o2 o3 : Int} {m : List S52} {q0 q1 : Bool} {q2 : Int} {q3 : List Int} (hr : Dm l o0 o1 o2 o3 = (m, q0, q1, q2, q3)) : Srt m ∧ m.length ≤ l.length + 1 ∧ q3.length ≤ l.length := by
  unfold Dm at hr
  split at hr
  · obtain ⟨rfl, e⟩ := Prod.mk.inj hr
    refine ⟨hs, by omega, ?_⟩
    have := getM_keys l o1; rw [e] at this; simp at this; simp [this]
  split at hr
  · obtain ⟨rfl, e⟩ := Prod.mk.inj hr
    refine ⟨srt_ins hs _ _, ins_len _ _ _, ?_⟩
    have := getM_keys l o1; rw [e] at this; simp at this; simp [this]
  split at hr
  · obtain ⟨rfl, e⟩ := Prod.mk.inj hr
    refine ⟨srt_del hs _, by have := del_len l o1; omega, ?_⟩
    have := getM_keys l o1; rw [e] at this; simp at this; simp [this]
  split at hr
  · obtain ⟨rfl, e⟩ := Prod.mk.inj hr
    refine ⟨hs, by omega, ?_⟩
    have := ceilM_keys l o1; rw [e] at this; simp at this; simp [this]
  split at hr
  · obtain ⟨rfl, e⟩ := Prod.mk.inj hr
    simp only [Prod.mk.injEq] at e
    obtain ⟨_, _, _, rfl⟩ := e
    exact ⟨hs, by omega, rng_len _ _ _ _⟩
  · obtain ⟨rfl, e⟩ := Prod.mk.inj hr
    simp only [Prod.mk.injEq] at e
    obtain ⟨_, _, _, rfl⟩ := e
    exact ⟨hs, by omega, Nat.zero_le _⟩
theorem rdo_conr (A : Option Addr) (c : Nat) (l : List S52) (o0 o1 o2 o3 o4 : Int) (hs : Srt l) (hl : l.length ≤ 1000) (m : List S52) (q0 q1 : Bool) (q2 : Int) (q3 : List Int) (hr : Dm l o0 o1 o2 o3 = (m, q0, q1, q2, q3)) (w0 : World) (H : List Nat) : Con Try.prog 12 #[.slice A (l.map old).length c, .agg #[.int .i64 o0, .int .u64 o1, .int .u64 o2, .int .i64 o3, .int .i64 o4]] w0 H [.f (KC k62 A c (l.map old))]
    (fun X => ∀ A1 c1 A2 c2, X (.tuple #[.slice A1 (m.map old).length c1, .agg #[.bool q0, .bool q1, .int .u64 q2, .slice A2 q3.length c2]]) [.f (KC k62 A1 c1 (m.map old)), .f (KC (Kd.int .u64) A2 c2 q3)]) := by
  have h := rdo_con A c l o0 o1 o2 o3 o4 hs hl w0 H
  rw [hr] at h
  exact h
end Go.Eng
