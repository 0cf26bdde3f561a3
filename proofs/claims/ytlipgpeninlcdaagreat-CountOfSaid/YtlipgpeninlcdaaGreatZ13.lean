/-
A run of code that hangs on no input is what the code does: guards, frames, results.
-/
import Derived.Test.YtlipgpeninlcdaaGreatZ12
namespace Go.Run
open Go.Eng
set_option linter.unusedVariables false
set_option linter.unusedSimpArgs false
section
variable {P : Program} {E : Env} {F : Fm} {FL : FL} {n : Nat} {a : Act} {w0 : World} {H : PT Ob} {c : Nat} {w w' : World} {o : Oper}
theorem gv_ok {ops : Array Oper} {b : Bool} (hF : FRel E F FL) (hfr : Fr ⟨n, []⟩ a FL) (h : gv ops.toList F o.guard = some b) : Region.wanted o (yielded ops a.tmps) = b := by
  refine gd_wanted hfr ?_
  unfold gv at h
  unfold gd
  split at h
  · rename_i hg; rw [hg]; exact h
  · rename_i j want hg
    rw [hg]
    dsimp only
    split at h <;> first | (cases h; done) | skip
    rename_i oj hj
    rw [nth_eq, Array.getElem?_toList] at hj
    split at h <;> first | (cases h; done) | skip
    rename_i t ht
    rw [hj, Option.bind_some, ht]
    dsimp only
    split at h <;> first | (cases h; done) | skip
    · rename_i x hx
      obtain ⟨u, h1, h2⟩ := hF t _ hx
      rw [h1, show u = .bool x from h2]
      rw [← h]
      cases x <;> cases want <;> rfl
    · rename_i hx
      obtain ⟨u, h1, h2⟩ := hF t _ hx
      rw [h1, show u = undef from h2]
      exact h
theorem lk_enumV : ∀ (xs : List V) (k : Nat) (F : Fm) (j : Nat) (v : V), lk (enumV k xs F) j = some v → (k ≤ j ∧ xs[j - k]? = some v) ∨ lk F j = some v
  | [], k, F, j, v, h => .inr h
  | x :: r, k, F, j, v, h => by
    rcases lk_enumV r (k + 1) (F.put k (some x)) j v h with ⟨h1, h2⟩ | h1
    · refine .inl ⟨by omega, ?_⟩
      rw [show j - k = (j - (k + 1)) + 1 by omega, List.getElem?_cons_succ]
      exact h2
    · unfold lk at h1
      by_cases hj : j = k
      · subst hj
        rw [Fm.put_same] at h1
        exact .inl ⟨Nat.le_refl _, by simpa using h1⟩
      · rw [Fm.put_other _ _ hj] at h1
        exact .inr h1
theorem look_enum : ∀ (us : List Value) (k j : Nat) (u : Value), k ≤ j → us[j - k]? = some u → Eng.look (Eng.enumF k us) j = some u
  | [], k, j, u, h, hu => by simp at hu
  | x :: r, k, j, u, h, hu => by
    rw [Eng.enumF, look_cons]
    by_cases hj : k = j
    · subst hj
      rw [if_pos rfl]
      simpa using hu
    · rw [if_neg hj]
      refine look_enum r (k + 1) j u (by omega) ?_
      rwa [show j - k = (j - (k + 1)) + 1 by omega, List.getElem?_cons_succ] at hu
theorem frame0 {xs : List V} {us : List Value} (nv : Nat) (h : VRs E xs us) : FRel E (enumV 0 xs ⟨nv, .e, []⟩) (Eng.enumF 0 us) := fun j v hv => by
  rcases lk_enumV xs 0 ⟨nv, .e, []⟩ j v hv with ⟨_, h2⟩ | h2
  · obtain ⟨u, h3, h4⟩ := h.at_ h2
    exact ⟨u, look_enum us 0 j u (Nat.zero_le _) h3, h4⟩
  · unfold lk at h2
    rw [Fm.get_nil] at h2
    cases h2
theorem fr0 {us : List Value} {m : Nat} (h : us.length ≤ m) : Fr ⟨m, []⟩ { tmps := us.toArray ++ Array.replicate (m - us.toArray.size) undef, defers := [] } (Eng.enumF 0 us) := by
  refine ⟨by simp; omega, rfl, fun j v hv => ?_⟩
  obtain ⟨_, h2⟩ := look_enumF 0 us j v hv
  rw [Nat.sub_zero] at h2
  have hlt : j < us.toArray.size := by simpa using (List.getElem?_eq_some_iff.1 h2).1
  show (us.toArray ++ Array.replicate (m - us.toArray.size) undef).getD j undef = v
  rw [Array.getD_eq_getD_getElem?, Array.getElem?_append_left hlt, List.getElem?_toArray, h2]
  rfl
theorem packR_ok {vs : List V} {us : List Value} (h : VRs E vs us) : VR E (packR vs) (packV us) := by
  unfold packR packV
  split
  · obtain ⟨u, r, h1, h2, rfl⟩ := h
    rw [show r = [] from h2]
    exact h1
  · rename_i hne
    split
    · rename_i u
      have := h.len
      simp at this
      exact absurd (List.length_eq_one_iff.1 this.symm) (by rintro ⟨v, rfl⟩; exact hne v rfl)
    · exact ⟨us, h, rfl⟩
noncomputable def rvF (a : Act) : ResultVar → Sem Value
  | .tmp t => pure (a.tmps.getD t undef)
  | .cell x t => do loadVar t (← asAddr (a.tmps.getD x undef))
theorem results_ok {fn : Func} {vs : List V} (hF : FRel E F FL) (hfr : Fr ⟨n, []⟩ a FL) (hw : Wr w0 E H.get w) (h : rvs P F H fn.results.toList = some vs) : ∃ u, (results fn a.tmps).run P w = .ok u w ∧ VR E (packR vs) u := by
  have key : ∀ {rs : List ResultVar} {vs : List V}, rvs P F H rs = some vs → ∃ us, (rs.mapM (rvF a)).run P w = .ok us w ∧ VRs E vs us := by
    intro rs
    induction rs with
    | nil => intro vs h; injection h with h; subst h; exact ⟨[], by simp, rfl⟩
    | cons r rs ih =>
      intro vs h
      cases r with
      | tmp t =>
        unfold rvs at h
        split at h <;> first | (cases h; done) | skip
        rename_i v hv
        split at h <;> first | (cases h; done) | skip
        rename_i vs' hvs
        cases h
        obtain ⟨us, h1, h2⟩ := ih hvs
        obtain ⟨u, h3, h4⟩ := hF t v hv
        exact ⟨u :: us, by simp only [List.mapM_cons, Sem.run_bind, Sem.run_pure, Result.andThen_ok, rvF, hfr.at_ _ _ h3, h1], u, us, h4, h2, rfl⟩
      | cell x t =>
        unfold rvs at h
        split at h <;> first | (cases h; done) | skip
        rename_i m ag b off k1 k2 k3
        split at h <;> first | (cases h; done) | skip
        rename_i cs k4
        split at h <;> first | (cases h; done) | skip
        rename_i v vs' k5 k6
        cases h
        obtain ⟨us, h1, h2⟩ := ih k6
        obtain ⟨_, h3, g, hg, rfl⟩ := hF x _ k3
        obtain ⟨d, hd, hn⟩ := agv_ok k2
        unfold ldc at k4
        split at k4 <;> first | (cases k4; done) | skip
        rename_i ob hb
        obtain ⟨us', cur, q1, q2, q3⟩ := live_ hw hb hg
        obtain ⟨p1, p2, p3⟩ := prt_ok k4 q1
        rw [← q1.len] at p1
        have hcell : ∀ j v, ((us'.drop off).take m)[j]? = some v → w.cell? ⟨g, off + j, none⟩ = some v := fun j v hv => by
          rw [List.getElem?_take] at hv
          split at hv
          · rw [List.getElem?_drop] at hv
            have := take_at q3 hv
            simp [World.cell?, q2, this]
          · cases hv
        have hl : ((us'.drop off).take m).length = m := by rw [List.length_take, List.length_drop]; omega
        have hld := run_cells (P := P) hcell
        rw [hl] at hld
        have hm := szv_ok k1
        unfold pack at k5
        cases ag with
        | true =>
          injection k5 with k5
          subst k5
          refine ⟨.agg ((us'.drop off).take m).toArray :: us, ?_, _, us, ⟨_, p3, rfl⟩, h2, rfl⟩
          have hs : (rvF a (.cell x t)).run P w = .ok (.agg ((us'.drop off).take m).toArray) w := by
            simp only [rvF, Sem.run_bind, Sem.run_pure, Result.andThen_ok, hfr.at_ _ _ h3, asAddr, loadVar, run_isAgg1 hd hn, if_true, run_size hm, hld]
          simp only [List.mapM_cons, Sem.run_bind, Sem.run_pure, Result.andThen_ok, hs, h1]
        | false =>
          dsimp only at k5
          split at k5 <;> first | (cases k5; done) | skip
          rename_i v'
          injection k5 with k5
          subst k5
          obtain ⟨u, r, r1, r2, r3⟩ := p3
          have h0 : w.cell? ⟨g, off, none⟩ = some u := hcell 0 u (by rw [r3]; rfl)
          refine ⟨u :: us, ?_, u, us, r1, h2, rfl⟩
          have hs : (rvF a (.cell x t)).run P w = .ok u w := by
            simp only [rvF, Sem.run_bind, Sem.run_pure, Result.andThen_ok, hfr.at_ _ _ h3, asAddr, loadVar, run_isAgg0 hd hn, if_false, Bool.false_eq_true, Eng.run_load (P := P) h0]
          simp only [List.mapM_cons, Sem.run_bind, Sem.run_pure, Result.andThen_ok, hs, h1]
  obtain ⟨us, h1, h2⟩ := key h
  refine ⟨packV us, ?_, packR_ok h2⟩
  have hm : (fn.results.mapM (rvF a)).run P w = .ok us.toArray w := by
    have : fn.results = fn.results.toList.toArray := by simp
    rw [this]
    simp only [List.mapM_toArray, Sem.run_map, h1, Result.andThen_ok]
  have hf : (fun r : ResultVar => (match r with | .tmp t => pure (a.tmps.getD t undef) | .cell x t => do loadVar t (← asAddr (a.tmps.getD x undef)) : Sem Value)) = rvF a := by
    funext r
    cases r <;> rfl
  unfold results
  rw [Sem.run_bind]
  refine (congrArg (fun r => Result.andThen r _) hm).trans ?_
  simp only [Result.andThen_ok]
  match us with
  | [] => simp [packV]
  | [v] => simp [packV]
  | u :: v :: r => simp [packV]
end
end Go.Run
