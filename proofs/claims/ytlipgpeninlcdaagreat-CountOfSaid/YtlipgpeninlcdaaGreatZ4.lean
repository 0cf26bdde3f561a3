/-
What single operations of a run yield, in memory as it is: operators, structs put together, parts of rows.
-/
import Derived.Test.YtlipgpeninlcdaaGreatZ3
import Derived.Laws.StructEq
import Derived.ChangeKeysEq
namespace Go.Run
open Go.Eng
set_option linter.unusedVariables false
set_option linter.unusedSimpArgs false
section
variable {P : Program} {E : Env} {F : Fm} {FL : FL} {n : Sz} {a : Act} {w0 : World} {H : PT Ob} {c : Nat} {w : World} {o : Oper}
theorem eqDepth' : ∃ d, Op.maxDepth = d + 2 := ⟨9998, rfl⟩
theorem eqd_ok {t : TypeId} {x y : V} {u v : Value} {b : X} (h : eqd (P.underlying t) x y = some b) (hx : VR E x u) (hy : VR E y v) (d : Nat) (w : World) :
    (Op.equalIn (d + 1) t u v).run P w = .ok (b.den E.ρ).b w ∧ (isAgg t).run P w = .ok false w := by
  unfold eqd at h
  split at h
  · rename_i k hd
    split at h
    · rename_i k1 m k2 q
      cases hk : Nat.beq (kn k1) (kn k2) with
      | false => rw [hk] at h; cases h
      | true =>
        rw [hk] at h
        injection h with h
        subst h
        obtain rfl := kn_eq hk
        rw [show u = .int k1 _ from hx, show v = .int k1 _ from hy, X.den_eq]
        exact ⟨by simp [Op.equalIn, run_underlying hd], run_isAgg0 hd rfl w⟩
    · cases h
  · rename_i hd
    split at h
    · rename_i p q
      injection h with h
      subst h
      rw [show u = .bool _ from hx, show v = .bool _ from hy, X.den_beq]
      exact ⟨by simp [Op.equalIn, run_underlying hd], run_isAgg0 hd rfl w⟩
    · cases h
  · cases h
theorem eqF_ok {d : Nat} {w : World} (xs ys : Array Value) : ∀ (fs : List Field) (k : Nat) (cs ds : List V) (b : X), eqF P fs k cs ds = some b → VRs E cs (xs.toList.drop k) → VRs E ds (ys.toList.drop k) → (Op.eqFields (d + 1) xs ys fs).run P w = .ok (b.den E.ρ).b w
  | [], k, [], [], b, h, _, _ => by
    injection h with h
    subst h
    simp [Op.eqFields, X.den, dB]
  | [], k, [], _ :: _, b, h, _, _ => by cases h
  | [], k, _ :: _, _, b, h, _, _ => by cases h
  | f :: r, k, [], _, b, h, _, _ => by cases h
  | f :: r, k, _ :: _, [], b, h, _, _ => by cases h
  | f :: r, k, x :: cs, y :: ds, b, h, hx, hy => by
    unfold eqF at h
    cases h1 : (Nat.beq f.offset k && !(f.name == "_")) with
    | false => rw [h1] at h; cases h
    | true => cases h2 : eqd (P.underlying f.type) x y with
      | none => rw [h1, h2] at h; cases h
      | some e => cases h3 : eqF P r (Nat.succ k) cs ds with
        | none => rw [h1, h2, h3] at h; cases h
        | some s =>
          rw [h1, h2, h3] at h
          injection h with h
          rw [Bool.and_eq_true] at h1
          obtain ⟨hk, hn⟩ := h1
          have hk := Nat.eq_of_beq_eq_true hk
          have hn' : f.name ≠ "_" := by simpa using hn
          obtain ⟨u, us, hu, hus, e1⟩ := hx
          obtain ⟨v, vs, hv, hvs, e2⟩ := hy
          obtain ⟨q1, q2⟩ := eqd_ok h2 hu hv d w
          have g1 : xs[k]? = some u := by
            have := congrArg (·[0]?) e1
            simpa using this
          have g2 : ys[k]? = some v := by
            have := congrArg (·[0]?) e2
            simpa using this
          have d1 : xs.toList.drop (k + 1) = us := by rw [← List.drop_drop (i := 1) (j := k), e1]; rfl
          have d2 : ys.toList.drop (k + 1) = vs := by rw [← List.drop_drop (i := 1) (j := k), e2]; rfl
          have p1 : (part f.type xs f.offset).run P w = .ok u w := by simp [part, Sem.run_bind, q2, hk, g1]
          have p2 : (part f.type ys f.offset).run P w = .ok v w := by simp [part, Sem.run_bind, q2, hk, g2]
          have ih := eqF_ok (d := d) (w := w) xs ys r (k + 1) cs ds s h3 (by rw [d1]; exact hus) (by rw [d2]; exact hvs)
          rw [Op.eqFields]
          simp only [if_pos hn', Sem.run_bind, p1, p2, q1, Result.andThen_ok]
          subst h
          rw [X.den_all]
          cases (X.den E.ρ e).b
          · simp
          · simpa using ih
noncomputable def eqS : BinOp → Bool → Bool
  | .eql, b => b
  | _, b => !b
theorem eqv_of {t : TypeId} {u v : Value} {b : Bool} {ox oy : Operand} (q : ∀ d w, (Op.equalIn (d + 2) t u v).run P w = .ok b w) (hg : ∀ op w, (eqGuard op t ox oy u v).run P w = .ok () w)
    (h1 : binOp .eql t u v = (do pure (.bool (← Op.equal t u v)))) (h2 : binOp .neq t u v = (do pure (.bool (!(← Op.equal t u v))))) (op : BinOp) (hop : op = .eql ∨ op = .neq) :
    (∀ w, (eqGuard op t ox oy u v).run P w = .ok () w) ∧ ∀ w, (binOp op t u v).run P w = .ok (.bool (eqS op b)) w := by
  obtain ⟨d, hd⟩ := eqDepth'
  refine ⟨hg op, fun w => ?_⟩
  rcases hop with rfl | rfl
  · rw [h1]; simp [Op.equal, hd, q d w, eqS]
  · rw [h2]; simp [Op.equal, hd, q d w, eqS]
theorem eqv_int {t : TypeId} {x y : V} {u v : Value} {b : X} {k : IntKind} (h : eqd (some (.int k)) x y = some b) (hx : VR E x u) (hy : VR E y v) (ox oy : Operand) (op : BinOp) (hop : op = .eql ∨ op = .neq) :
    (∀ w, (eqGuard op t ox oy u v).run P w = .ok () w) ∧ ∀ w, (binOp op t u v).run P w = .ok (.bool (eqS op (b.den E.ρ).b)) w := by
  simp only [eqd] at h
  split at h
  · rename_i k1 m k2 q
    cases hk : Nat.beq (kn k1) (kn k2) with
    | false => rw [hk] at h; cases h
    | true =>
      rw [hk] at h
      injection h with h
      subst h
      obtain rfl := kn_eq hk
      rw [show u = .int k1 _ from hx, show v = .int k1 _ from hy, X.den_eq]
      rcases hop with rfl | rfl
      · exact ⟨fun w => by simp [eqGuard], fun w => by simp [binOp, Op.intCmp, eqS]⟩
      · exact ⟨fun w => by simp [eqGuard], fun w => by simp [binOp, Op.intCmp, eqS, bne]⟩
  · cases h
theorem eqv_bool {t : TypeId} {x y : V} {u v : Value} {b : X} (ht : P.underlying t = some .bool) (h : eqd (some .bool) x y = some b) (hx : VR E x u) (hy : VR E y v) (ox oy : Operand) (op : BinOp) (hop : op = .eql ∨ op = .neq) :
    (∀ w, (eqGuard op t ox oy u v).run P w = .ok () w) ∧ ∀ w, (binOp op t u v).run P w = .ok (.bool (eqS op (b.den E.ρ).b)) w := by
  have q := fun d w => (eqd_ok (t := t) (P := P) (E := E) (by rw [ht]; exact h) hx hy (d + 1) w).1
  simp only [eqd] at h
  split at h
  · rename_i p r
    rw [show u = .bool _ from hx, show v = .bool _ from hy] at q ⊢
    exact eqv_of q (fun op w => by simp [eqGuard]) rfl rfl op hop
  · cases h
theorem eqv_ptr {t e : TypeId} {x y : V} {u v : Value} {b : X} (ht : P.underlying t = some (.pointer e)) (h : (match x, y with | .ptr _ _, .nil => some (.bl false) | .nil, .nil => some (.bl true) | _, _ => none) = some b) (hx : VR E x u) (hy : VR E y v) (ox oy : Operand) (op : BinOp) (hop : op = .eql ∨ op = .neq) :
    (∀ w, (eqGuard op t ox oy u v).run P w = .ok () w) ∧ ∀ w, (binOp op t u v).run P w = .ok (.bool (eqS op (b.den E.ρ).b)) w := by
  split at h
  · rename_i p off
    injection h with h
    subst h
    obtain ⟨g, _, rfl⟩ := hx
    rw [show v = .pointer none from hy]
    exact eqv_of (fun d w => by simp [Op.equalIn, run_underlying ht, X.den, dB]) (fun op w => by simp [eqGuard]) rfl rfl op hop
  · injection h with h
    subst h
    rw [show u = .pointer none from hx, show v = .pointer none from hy]
    exact eqv_of (fun d w => by simp [Op.equalIn, run_underlying ht, X.den, dB]) (fun op w => by simp [eqGuard]) rfl rfl op hop
  · cases h
theorem eqv_func {t : TypeId} {e1 e2 e3} {x y : V} {u v : Value} {b : X} (ht : P.underlying t = some (.func e1 e2 e3)) (h : (match x, y with | .nfn, .nfn => some (.bl true) | .fn _ _ _, .nfn => some (.bl false) | _, _ => none) = some b) (hx : VR E x u) (hy : VR E y v) (ox oy : Operand) (op : BinOp) (hop : op = .eql ∨ op = .neq) :
    (∀ w, (eqGuard op t ox oy u v).run P w = .ok () w) ∧ ∀ w, (binOp op t u v).run P w = .ok (.bool (eqS op (b.den E.ρ).b)) w := by
  split at h
  · injection h with h
    subst h
    rw [show u = .nilFunc from hx, show v = .nilFunc from hy]
    exact eqv_of (fun d w => by simp [Op.equalIn, run_underlying ht, X.den, dB]) (fun op w => by simp [eqGuard]) rfl rfl op hop
  · injection h with h
    subst h
    obtain ⟨us, vs, _, _, rfl⟩ := hx
    rw [show v = .nilFunc from hy]
    exact eqv_of (fun d w => by simp [Op.equalIn, run_underlying ht, X.den, dB]) (fun op w => by simp [eqGuard]) rfl rfl op hop
  · cases h
theorem eqv_ifc {t : TypeId} {e} {x y : V} {u v : Value} {b : X} (ht : P.underlying t = some (.interface e)) (ox oy : Operand) (h : (match x, y, isC ox || isC oy with | .ifc _ _, .nif, _ => some (.bl false) | .nif, .nif, true => some (.bl true) | _, _, _ => none) = some b) (hx : VR E x u) (hy : VR E y v) (op : BinOp) (hop : op = .eql ∨ op = .neq) :
    (∀ w, (eqGuard op t ox oy u v).run P w = .ok () w) ∧ ∀ w, (binOp op t u v).run P w = .ok (.bool (eqS op (b.den E.ρ).b)) w := by
  split at h
  · injection h with h
    subst h
    obtain ⟨z, _, rfl⟩ := hx
    rw [show v = .nilIface from hy]
    exact eqv_of (fun d w => by simp [Op.equalIn, run_underlying ht, X.den, dB]) (fun op w => by simp [eqGuard]) rfl rfl op hop
  · rename_i hc
    injection h with h
    subst h
    rw [show u = .nilIface from hx, show v = .nilIface from hy]
    refine eqv_of (fun d w => by simp [Op.equalIn, run_underlying ht, X.den, dB]) (fun op w => ?_) rfl rfl op hop
    cases ox <;> cases oy <;> first | (cases hc; done) | (cases op <;> simp [eqGuard])
  · cases h
theorem eqv_sl {t e : TypeId} {x y : V} {u v : Value} {b : X} (ht : P.underlying t = some (.slice e)) (h : (match x, y with | .sl _ _ _ _, .nsl => some (.bl false) | .esl, .nsl => some (.bl false) | .nsl, .nsl => some (.bl true) | _, _ => none) = some b) (hx : VR E x u) (hy : VR E y v) (ox oy : Operand) (op : BinOp) (hop : op = .eql ∨ op = .neq) :
    (∀ w, (eqGuard op t ox oy u v).run P w = .ok () w) ∧ ∀ w, (binOp op t u v).run P w = .ok (.bool (eqS op (b.den E.ρ).b)) w := by
  split at h
  · injection h with h
    subst h
    obtain ⟨g, cp, _, _, _, rfl⟩ := hx
    rw [show v = .slice none 0 0 from hy]
    exact eqv_of (fun d w => by simp [Op.equalIn, run_underlying ht, X.den, dB]) (fun op w => by simp [eqGuard]) rfl rfl op hop
  · injection h with h
    subst h
    obtain ⟨g, cp, rfl⟩ := hx
    rw [show v = .slice none 0 0 from hy]
    exact eqv_of (fun d w => by simp [Op.equalIn, run_underlying ht, X.den, dB]) (fun op w => by simp [eqGuard]) rfl rfl op hop
  · injection h with h
    subst h
    rw [show u = .slice none 0 0 from hx, show v = .slice none 0 0 from hy]
    exact eqv_of (fun d w => by simp [Op.equalIn, run_underlying ht, X.den, dB]) (fun op w => by simp [eqGuard]) rfl rfl op hop
  · cases h
theorem eqv_st {t : TypeId} {fs : Array Field} {cs ds : List V} {u v : Value} {b : X} (ht : P.underlying t = some (.struct fs)) (hg : P.eqGuardType P.depth t = false) (hst : P.stoodInHeld t = false) (h : eqF P fs.toList 0 cs ds = some b) (hx : VR E (.agg cs) u) (hy : VR E (.agg ds) v) (ox oy : Operand) (op : BinOp) (hop : op = .eql ∨ op = .neq) :
    (∀ w, (eqGuard op t ox oy u v).run P w = .ok () w) ∧ ∀ w, (binOp op t u v).run P w = .ok (.bool (eqS op (b.den E.ρ).b)) w := by
  obtain ⟨us, h1, rfl⟩ := hx
  obtain ⟨vs, h2, rfl⟩ := hy
  refine eqv_of (fun d w => ?_) (fun op w => by simp [eqGuard, hg]) rfl rfl op hop
  have hf : P.fieldsOf t = fs := by simp [Program.fieldsOf, ht]
  rw [run_equalIn_struct (P := P) w (d + 1) t _ _ (by rw [hf]; exact ht) hst, hf]
  exact eqF_ok _ _ fs.toList 0 _ _ b h (by simpa using h1) (by simpa using h2)
theorem eqItems_ok {d : Nat} {w : World} {e : TypeId} (xs ys : Array Value) : ∀ (m k : Nat) (cs ds : List V) (b : X), eqA (P.underlying e) cs ds = some b → cs.length = m → VRs E cs (xs.toList.drop k) → VRs E ds (ys.toList.drop k) → (Op.eqItems (d + 1) e 1 xs ys (List.range' k m)).run P w = .ok (b.den E.ρ).b w
  | m, k, [], [], b, h, hm, _, _ => by
    injection h with h
    subst h
    subst hm
    simp [Op.eqItems, X.den, dB]
  | m, k, [], _ :: _, b, h, _, _, _ => by cases h
  | m, k, _ :: _, [], b, h, _, _, _ => by cases h
  | m, k, x :: cs, y :: ds, b, h, hm, hx, hy => by
    unfold eqA at h
    split at h <;> first | (cases h; done) | skip
    rename_i e1 s h2 h3
    injection h with h
    obtain ⟨u, us, hu, hus, q1⟩ := hx
    obtain ⟨v, vs, hv, hvs, q2⟩ := hy
    obtain ⟨r1, r2⟩ := eqd_ok h2 hu hv d w
    have g1 : xs[k]? = some u := by
      have := congrArg (·[0]?) q1
      simpa using this
    have g2 : ys[k]? = some v := by
      have := congrArg (·[0]?) q2
      simpa using this
    have d1 : xs.toList.drop (k + 1) = us := by rw [← List.drop_drop (i := 1) (j := k), q1]; rfl
    have d2 : ys.toList.drop (k + 1) = vs := by rw [← List.drop_drop (i := 1) (j := k), q2]; rfl
    have p1 : (part e xs (k * 1)).run P w = .ok u w := by simp [part, Sem.run_bind, r2, g1]
    have p2 : (part e ys (k * 1)).run P w = .ok v w := by simp [part, Sem.run_bind, r2, g2]
    subst hm
    have ih := eqItems_ok (d := d) (w := w) xs ys cs.length (k + 1) cs ds s h3 rfl (by rw [d1]; exact hus) (by rw [d2]; exact hvs)
    rw [List.length_cons, List.range'_succ]
    simp only [Op.eqItems, Sem.run_bind, p1, p2, r1, Result.andThen_ok]
    subst h
    rw [X.den_all]
    cases (X.den E.ρ e1).b
    · simp
    · simpa using ih
theorem eqA_len {d : Option TypeDesc} : ∀ {cs ds : List V} {b : X}, eqA d cs ds = some b → cs.length = ds.length
  | [], [], b, _ => rfl
  | [], _ :: _, b, h => by cases h
  | _ :: _, [], b, h => by cases h
  | x :: cs, y :: ds, b, h => by
    unfold eqA at h
    split at h <;> first | (cases h; done) | skip
    rename_i h2
    simp [eqA_len h2]
theorem eqv_ar {t e : TypeId} {len : Nat} {cs ds : List V} {u v : Value} {b : X} (ht : P.underlying t = some (.array len e)) (hg : P.eqGuardType P.depth t = false) (hs : szv P e = some 1) (hl : ln cs = len) (h : eqA (P.underlying e) cs ds = some b) (hx : VR E (.agg cs) u) (hy : VR E (.agg ds) v) (ox oy : Operand) (op : BinOp) (hop : op = .eql ∨ op = .neq) :
    (∀ w, (eqGuard op t ox oy u v).run P w = .ok () w) ∧ ∀ w, (binOp op t u v).run P w = .ok (.bool (eqS op (b.den E.ρ).b)) w := by
  obtain ⟨us, h1, rfl⟩ := hx
  obtain ⟨vs, h2, rfl⟩ := hy
  refine eqv_of (fun d w => ?_) (fun op w => by simp [eqGuard, hg]) rfl rfl op hop
  obtain ⟨i, hi, hs1⟩ := Option.map_eq_some_iff.1 (szv_ok hs)
  have hc : P.cellsOf e = 1 := by simp [Program.cellsOf, hi, hs1]
  rw [run_equalIn_array (P := P) w (d + 1) us.toArray vs.toArray ht hi, hc, List.range_eq_range']
  exact eqItems_ok _ _ len 0 cs ds b h (by rw [← hl, ln_eq]) (by simpa using h1) (by simpa using h2)
/-- What '==' says of two values. -/
theorem eqv_ok {t : TypeId} {x y : V} {u v : Value} {b : X} (ox oy : Operand) (h : eqv P t (isC ox || isC oy) x y = some b) (hx : VR E x u) (hy : VR E y v) (op : BinOp) (hop : op = .eql ∨ op = .neq) :
    (∀ w, (eqGuard op t ox oy u v).run P w = .ok () w) ∧ ∀ w, (binOp op t u v).run P w = .ok (.bool (eqS op (b.den E.ρ).b)) w := by
  unfold eqv at h
  split at h
  · exact eqv_int h hx hy ox oy op hop
  · rename_i ht; exact eqv_bool ht h hx hy ox oy op hop
  · rename_i e ht; exact eqv_ptr ht h hx hy ox oy op hop
  · rename_i e1 e2 e3 ht; exact eqv_func ht h hx hy ox oy op hop
  · rename_i e ht; exact eqv_ifc ht ox oy h hx hy op hop
  · rename_i e ht; exact eqv_sl ht h hx hy ox oy op hop
  · rename_i fs ht
    split at h <;> first | (cases h; done) | skip
    split at h <;> first | (cases h; done) | skip
    rename_i hg hst
    exact eqv_st ht hg hst h hx hy ox oy op hop
  · rename_i len e ht
    split at h <;> first | (cases h; done) | skip
    split at h <;> first | (cases h; done) | skip
    rename_i hg hs hl _
    exact eqv_ar ht hg hs (Nat.eq_of_beq_eq_true hl) h hx hy ox oy op hop
  · cases h
end
end Go.Run
