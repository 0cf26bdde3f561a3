/-
What single operations of a run yield, in memory as it is: operators.
-/
import Derived.Test.YtlipgpeninlcdaaGreatZ4
namespace Go.Run
open Go.Eng
set_option linter.unusedVariables false
set_option linter.unusedSimpArgs false
section
variable {P : Program} {E : Env} {F : Fm} {FL : FL} {n : Sz} {a : Act} {w0 : World} {H : PT Ob} {c : Nat} {w : World} {o : Oper}
theorem y_eq {op : BinOp} {t t' : TypeId} {x y : Operand} {u v : V} {b : X} (hop : op = .eql ∨ op = .neq) (hF : FRel E F FL) (hfr : Fr n a FL) (ho : o.op = .binOp op t x y t') (hx : eo F x = some u) (hy : eo F y = some v) (h : eqv P t (isC x || isC y) u v = some b) {r : V} (hr : VR E r (.bool (eqS op (b.den E.ρ).b))) : Yl P E o a w r none := by
  obtain ⟨u1, e1, r1⟩ := eo_ok hF hx
  obtain ⟨u2, e2, r2⟩ := eo_ok hF hy
  obtain ⟨q1, q2⟩ := eqv_ok x y h r1 r2 op hop
  refine yl0 (u := .bool (eqS op (b.den E.ρ).b)) hfr hr (fun w' a' w'' hf hs => ?_)
  simp only [execOp, ho, hf.ev e1, hf.ev e2, Sem.run_bind, q1, q2, Result.andThen_ok, Sem.run_pure]
theorem y_bin {op : BinOp} {t t' : TypeId} {x y : Operand} {u v r : V} (hF : FRel E F FL) (hfr : Fr n a FL) (ho : o.op = .binOp op t x y t') (hx : eo F x = some u) (hy : eo F y = some v) (h : bin P op t (isC x || isC y) u v = some r) (hn : ∀ z ∈ qneed F (.binOp op t x y t'), (z.den E.ρ).b = true) : Yl P E o a w r none := by
  obtain ⟨u1, e1, r1⟩ := eo_ok hF hx
  obtain ⟨u2, e2, r2⟩ := eo_ok hF hy
  have vi : ∀ {k : IntKind} {e : X} {m : Int}, (e.den E.ρ).i = m → VR E (.int k e) (.int k m) := fun h => by show _ = Value.int _ _; rw [h]
  have vb : ∀ {e : X} {m : Bool}, (e.den E.ρ).b = m → VR E (.bool e) (.bool m) := fun h => by show _ = Value.bool _; rw [h]
  cases op <;> simp only [bin] at h
  case eql =>
    split at h
    · rename_i b hb; injection h with h; subst h; exact y_eq (.inl rfl) hF hfr ho hx hy hb rfl
    · cases h
  case neq =>
    split at h
    · rename_i b hb; injection h with h; subst h; exact y_eq (.inr rfl) hF hfr ho hx hy hb (vb (X.den_not _ _))
    · cases h
  case shl =>
    split at h
    · rename_i k m k' q
      injection h with h
      subst h
      rw [show u1 = .int k _ from r1] at e1
      rw [show u2 = .int k' _ from r2] at e2
      have hq := hn (X.not (X.lt q (.lit 0))) (by simp only [qneed, bneed, nzX, npX, hy]; exact List.mem_singleton_self _)
      rw [X.den_not, X.den_lt] at hq
      exact yl0 hfr (vi (by rw [X.den_wr, X.den_two _ (fun _ _ => rfl)])) (fun w' => v_shl ho e1 e2 (by exact Int.not_lt.1 (show ¬ ((X.den E.ρ q).i < (X.den E.ρ (.lit 0)).i) by simpa using hq)))
    · cases h
  case shr =>
    split at h
    · rename_i k m k' q
      injection h with h
      subst h
      rw [show u1 = .int k _ from r1] at e1
      rw [show u2 = .int k' _ from r2] at e2
      have hq := hn (X.not (X.lt q (.lit 0))) (by simp only [qneed, bneed, nzX, npX, hy]; exact List.mem_singleton_self _)
      rw [X.den_not, X.den_lt] at hq
      exact yl0 hfr (vi (by rw [X.den_two _ (fun _ _ => rfl)])) (fun w' => v_shr ho e1 e2 (by exact Int.not_lt.1 (show ¬ ((X.den E.ρ q).i < (X.den E.ρ (.lit 0)).i) by simpa using hq)))
    · cases h
  case quo =>
    split at h <;> first | (cases h; done) | skip
    rename_i k m k' q
    split at h <;> first | (cases h; done) | skip
    rename_i hk
    obtain rfl := kn_eq hk
    injection h with h
    subst h
    rw [show u1 = .int k _ from r1] at e1
    rw [show u2 = .int k _ from r2] at e2
    have hq := hn (X.not (X.eq q (.lit 0))) (by simp only [qneed, bneed, nzX, npX, hy]; exact List.mem_singleton_self _)
    rw [X.den_not, X.den_eq] at hq
    exact yl0 hfr (vi (by rw [X.den_wr, X.den_two _ (fun _ _ => rfl)])) (fun w' => v_div ho e1 e2 (by simpa [X.den, dI] using hq))
  case rem =>
    split at h <;> first | (cases h; done) | skip
    rename_i k m k' q
    split at h <;> first | (cases h; done) | skip
    rename_i hk
    obtain rfl := kn_eq hk
    injection h with h
    subst h
    rw [show u1 = .int k _ from r1] at e1
    rw [show u2 = .int k _ from r2] at e2
    have hq := hn (X.not (X.eq q (.lit 0))) (by simp only [qneed, bneed, nzX, npX, hy]; exact List.mem_singleton_self _)
    rw [X.den_not, X.den_eq] at hq
    exact yl0 hfr (vi (by rw [X.den_two _ (fun _ _ => rfl)])) (fun w' => v_rem ho e1 e2 (by simpa [X.den, dI] using hq))
  all_goals
    split at h <;> first | (cases h; done) | skip
    rename_i k m k' q
    split at h <;> first | (cases h; done) | skip
    rename_i hk
    obtain rfl := kn_eq hk
    rw [show u1 = .int k _ from r1] at e1
    rw [show u2 = .int k _ from r2] at e2
    injection h with h
    subst h
  · exact yl0 hfr (vi (by rw [X.den_wr, X.den_two _ (fun _ _ => rfl)])) (fun w' => v_arith ho e1 e2 rfl)
  · exact yl0 hfr (vi (by rw [X.den_wr, X.den_two _ (fun _ _ => rfl)])) (fun w' => v_arith ho e1 e2 rfl)
  · exact yl0 hfr (vi (by rw [X.den_wr, X.den_two _ (fun _ _ => rfl)])) (fun w' => v_arith ho e1 e2 rfl)
  · exact yl0 hfr (vi (by rw [X.den_wr, X.den_two _ (fun _ _ => rfl)])) (fun w' => v_bits ho e1 e2 rfl)
  · exact yl0 hfr (vi (by rw [X.den_wr, X.den_two _ (fun _ _ => rfl)])) (fun w' => v_bits ho e1 e2 rfl)
  · exact yl0 hfr (vi (by rw [X.den_wr, X.den_two _ (fun _ _ => rfl)])) (fun w' => v_bits ho e1 e2 rfl)
  · exact yl0 hfr (vi (by rw [X.den_wr, X.den_two _ (fun _ _ => rfl)])) (fun w' => v_bits ho e1 e2 rfl)
  · exact yl0 hfr (vb (X.den_lt _ _ _)) (fun w' => v_arith ho e1 e2 rfl)
  · exact yl0 (u := .bool (decide ((m.den E.ρ).i ≤ (q.den E.ρ).i))) hfr (vb (by rw [X.den_not, X.den_lt]; rw [← decide_not]; congr 1; simp)) (fun w' => v_arith ho e1 e2 rfl)
  · exact yl0 hfr (vb (X.den_lt _ _ _)) (fun w' => v_arith ho e1 e2 rfl)
  · exact yl0 (u := .bool (decide ((m.den E.ρ).i ≥ (q.den E.ρ).i))) hfr (vb (by rw [X.den_not, X.den_lt]; rw [← decide_not]; congr 1; simp)) (fun w' => v_arith ho e1 e2 rfl)
end
end Go.Run
