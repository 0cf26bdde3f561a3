/-
What an operation of a run yields that leaves memory as it is: all of them.
-/
import Derived.Test.YtlipgpeninlcdaaGreatZ6
namespace Go.Run
open Go.Eng
set_option linter.unusedVariables false
set_option linter.unusedSimpArgs false
theorem eos_one {F : Fm} {l : List Operand} {v : V} (h : eos F l = some [v]) : ∃ x, l = [x] ∧ eo F x = some v := by
  cases l with
  | nil => injection h with h; cases h
  | cons x r =>
    unfold eos at h
    cases h1 : eo F x with
    | none => rw [h1] at h; cases h
    | some u => cases h2 : eos F r with
      | none => rw [h1, h2] at h; cases h
      | some us =>
        rw [h1, h2] at h
        injection h with h
        injection h with e1 e2
        subst e1 e2
        cases r with
        | nil => exact ⟨x, rfl, h1⟩
        | cons y s =>
          unfold eos at h2
          split at h2 <;> first | (cases h2; done) | skip
          split at h2 <;> cases h2
section
variable {P : Program} {E : Env} {F : Fm} {FL : FL} {n : Sz} {a : Act} {w0 : World} {H : PT Ob} {c : Nat} {w : World} {o : Oper}
theorem lent_ok {ts : Array TypeId} (h : lent P ts = true) : ∃ t e, ts[0]? = some t ∧ P.underlying t = some (.slice e) := by
  unfold lent at h
  split at h
  · rename_i t r ht
    cases he : elv P t with
    | none => rw [he] at h; cases h
    | some e => exact ⟨t, e, by rw [← Array.getElem?_toList, ht]; rfl, elv_ok he⟩
  · cases h
theorem y_len {cl : Call} {v : V} {k : Nat} (hF : FRel E F FL) (hfr : Fr n a FL) (ho : o.op = .call cl) (hc : cl.callee = .builtin .len) (hv : eos F cl.args.toList = some [v]) (ht : lent P cl.argTypes = true) (hk : (∃ b off cap, v = .sl b off k cap) ∨ (v = .nsl ∧ k = 0) ∨ (v = .esl ∧ k = 0)) : Yl P E o a w (.int .i64 (.lit (.ofNat k))) none := by
  obtain ⟨x, e1, e2⟩ := eos_one hv
  obtain ⟨u, e3, r⟩ := eo_ok hF e2
  obtain ⟨t, e, h1, h2⟩ := lent_ok ht
  have ha : cl.args = #[x] := Array.toList_inj.1 (by simpa using e1)
  rcases hk with ⟨b, off, cap, rfl⟩ | ⟨rfl, rfl⟩ | ⟨rfl, rfl⟩
  · obtain ⟨g, cp, _, _, _, rfl⟩ := r
    exact yl0 hfr rfl (fun w' => v_len ho hc h1 h2 e3 ha)
  rotate_left
  · obtain ⟨g, cp, rfl⟩ := r
    exact yl0 hfr rfl (fun w' => v_len ho hc h1 h2 e3 ha)
  · rw [show u = .slice none 0 0 from r] at e3
    exact yl0 hfr rfl (fun w' => v_len ho hc h1 h2 e3 ha)
theorem y_cap {cl : Call} {v : V} {k : Nat} (hF : FRel E F FL) (hfr : Fr n a FL) (ho : o.op = .call cl) (hc : cl.callee = .builtin .cap) (hv : eos F cl.args.toList = some [v]) (ht : lent P cl.argTypes = true) (hk : (∃ b off len, v = .sl b off len (.n k)) ∨ (v = .nsl ∧ k = 0)) : Yl P E o a w (.int .i64 (.lit (.ofNat k))) none := by
  obtain ⟨x, e1, e2⟩ := eos_one hv
  obtain ⟨u, e3, r⟩ := eo_ok hF e2
  obtain ⟨t, e, h1, h2⟩ := lent_ok ht
  have ha : cl.args = #[x] := Array.toList_inj.1 (by simpa using e1)
  have fin : ∀ A l, u = .slice A l k → Yl P E o a w (.int .i64 (.lit (.ofNat k))) none := fun A l hu => by
    subst hu
    refine yl0 (u := .int .i64 (k : Nat)) hfr rfl (fun w' a' w'' hf hs => ?_)
    simp [execOp, ho, resolve, hc, ha, hf.ev e3, invoke, builtin, Builtin.cap_, h1, run_underlying h2, goInt]
  rcases hk with ⟨b, off, len, rfl⟩ | ⟨rfl, rfl⟩
  · obtain ⟨g, cp, _, hcp, _, rfl⟩ := r
    exact fin _ _ (by rw [show cp = k from hcp])
  · exact fin none 0 r
theorem y_mm {cl : Call} {vs : List V} {v : V} {lo : Bool} (hF : FRel E F FL) (hfr : Fr n a FL) (ho : o.op = .call cl) (hc : cl.callee = .builtin (match lo with | true => .min | false => .max)) (hv : eos F cl.args.toList = some vs) (hm : isMinMax vs lo = some v) : Yl P E o a w v none := by
  obtain ⟨us, e1, r⟩ := eos_ok hF hv
  unfold isMinMax at hm
  split at hm <;> first | (cases hm; done) | skip
  rename_i k m k' q
  split at hm <;> first | (cases hm; done) | skip
  rename_i hk
  obtain rfl := kn_eq hk
  obtain ⟨u1, us1, r1, r2, rfl⟩ := r
  obtain ⟨u2, us2, r3, r4, rfl⟩ := r2
  rw [show us2 = [] from r4, show u1 = .int k _ from r1, show u2 = .int k _ from r3] at e1
  injection hm with hm
  subst hm
  cases lo with
  | true =>
    refine yl0 (u := .int k (if (q.den E.ρ).i < (m.den E.ρ).i then (q.den E.ρ).i else (m.den E.ρ).i)) hfr ?_ (fun w' => v_min (x := .const undef) (y := .const undef) ho hc e1)
    show _ = Value.int _ _
    rw [X.den_two _ (fun a b => ?_)]
    · simp only [iMin, ilt_eq]
      by_cases h : (q.den E.ρ).i < (m.den E.ρ).i <;> simp [h]
    · simp only [O2.den, dI, iMin, ilt_eq]
      by_cases h : b.i < a.i <;> simp [h]
  | false =>
    refine yl0 (u := .int k (if (m.den E.ρ).i < (q.den E.ρ).i then (q.den E.ρ).i else (m.den E.ρ).i)) hfr ?_ (fun w' => v_max (x := .const undef) (y := .const undef) ho hc e1)
    show _ = Value.int _ _
    rw [X.den_two _ (fun a b => ?_)]
    · simp only [iMax, ilt_eq]
      by_cases h : (m.den E.ρ).i < (q.den E.ρ).i <;> simp [h]
    · simp only [O2.den, dI, iMax, ilt_eq]
      by_cases h : a.i < b.i <;> simp [h]
theorem hasM_ok (got : Array Method) : ∀ (l : List (String × TypeId)), hasM got.toList l = (l.filter (fun p => !got.any (fun m => m.name == p.1 && m.sig == p.2))).isEmpty
  | [] => rfl
  | p :: r => by
    unfold hasM
    rw [Array.any_toList, List.filter_cons, hasM_ok got r]
    cases got.any (fun m => m.name == p.1 && m.sig == p.2) <;> simp
theorem missing_ok (want : Array (String × TypeId)) (got : Array Method) : (hasM got.toList want.toList = true → Instr.missingMethod want got = none) ∧ (hasM got.toList want.toList = false → ∃ m, Instr.missingMethod want got = some m) := by
  have hm : hasM got.toList want.toList = (want.toList.filter (fun x => !got.any (fun m => m.name == x.1 && m.sig == x.2))).isEmpty := hasM_ok got _
  unfold Instr.missingMethod
  refine ⟨fun h => ?_, fun h => ?_⟩
  · rw [hm, List.isEmpty_iff] at h
    simp only [h, List.map_nil, List.partition_eq_filter_filter, List.filter_nil, Instr.least]
    rfl
  · rw [hm] at h
    generalize hl : want.toList.filter (fun x => !got.any (fun m => m.name == x.1 && m.sig == x.2)) = l at h
    have hl' : (want.toList.filter fun (name, sig) => !got.any fun m => m.name == name && m.sig == sig) = l := hl
    simp only [hl', List.partition_eq_filter_filter]
    cases h1 : (l.map (·.1)).filter (not ∘ fun x => x.contains '.') with
    | cons y ys => exact ⟨_, rfl⟩
    | nil =>
      cases h2 : (l.map (·.1)).filter (fun x => x.contains '.') with
      | cons y ys => exact ⟨_, rfl⟩
      | nil =>
        cases l with
        | nil => simp at h
        | cons p r =>
          rw [List.map_cons, List.filter_cons] at h1 h2
          cases hc : (p.1.contains '.') with
          | true => simp only [hc] at h2; simp at h2
          | false => simp only [hc, Function.comp] at h1; simp at h1
theorem zvv_ok {t : TypeId} {v : V} (h : zvv P t = some v) (w : World) : ∃ z, (zeroValue t).run P w = .ok z w ∧ ∀ E, VR E v z := by
  unfold zvv at h
  split at h <;> first | (cases h; done) | skip
  rename_i i hi
  split at h <;> first | (cases h; done) | skip
  rename_i z hz
  refine ⟨z, ?_, fun E => ofC_ok h⟩
  unfold zeroValue typeInfo
  simp [program, Sem.run, hi, hz]
theorem y_ta {x : Operand} {xt u : TypeId} {ok : Bool} {v r : V} {b : Bool} (hF : FRel E F FL) (hfr : Fr n a FL) (ho : o.op = .typeAssert x xt u ok) (hx : eo F x = some v) (ht : tas P u v = some b)
    (hr : (b = true ∧ ∃ y, asV P u v = some y ∧ r = if' ok (.tup [y, .bool (.bl true)]) y) ∨ (b = false ∧ ok = true ∧ ∃ z, zvv P u = some z ∧ r = .tup [z, .bool (.bl false)])) : Yl P E o a w r none := by
  obtain ⟨uu, e, rr⟩ := eo_ok hF hx
  have key : (b = true → ∃ y yy, asV P u v = some y ∧ VR E y yy ∧ ∀ w, (Instr.typeAssert uu xt u ok).run P w = .ok (if ok then .tuple #[yy, .bool true] else yy) w) ∧
      (b = false → ok = true → ∀ z, zvv P u = some z → ∀ zz w, (zeroValue u).run P w = .ok zz w → (Instr.typeAssert uu xt u ok).run P w = .ok (.tuple #[zz, .bool false]) w) := by
    unfold tas at ht
    split at ht <;> first | (cases ht; done) | skip
    · rename_i want hd
      cases ht
      rw [show uu = .nilIface from rr]
      refine ⟨fun h => (by cases h), fun _ hok z _ zz w hz => ?_⟩
      subst hok
      simp [Instr.typeAssert, run_underlying hd, hz]
    · rename_i want t v' hd
      split at ht <;> first | (cases ht; done) | skip
      rename_i i hi
      injection ht with ht
      obtain ⟨m1, m2⟩ := missing_ok want i.methods
      have hti : ∀ w, (typeInfo t).run P w = .ok i w := fun w => by unfold typeInfo; simp [program, Sem.run, hi]
      obtain ⟨vv, r1, rfl⟩ := rr
      refine ⟨fun h => ?_, fun h hok z _ zz w hz => ?_⟩
      · subst h
        refine ⟨.ifc t v', .iface t vv, by unfold asV; rw [hd], ⟨vv, r1, rfl⟩, fun w => ?_⟩
        cases ok <;> simp [Instr.typeAssert, run_underlying hd, hti, m1 ht]
      · subst h hok
        obtain ⟨m, hm⟩ := m2 ht
        simp [Instr.typeAssert, run_underlying hd, hti, hm, hz]
    · rename_i d hne hd
      cases ht
      rw [show uu = .nilIface from rr]
      refine ⟨fun h => (by cases h), fun _ hok z _ zz w hz => ?_⟩
      subst hok
      cases d <;> first | exact absurd rfl (hne _) | simp [Instr.typeAssert, run_underlying hd, hz]
    · rename_i d t v' hne hd
      injection ht with ht
      obtain ⟨vv, r1, rfl⟩ := rr
      refine ⟨fun h => ?_, fun h hok z _ zz w hz => ?_⟩
      · subst h
        have ht := Nat.eq_of_beq_eq_true ht
        subst ht
        refine ⟨v', vv, ?_, r1, fun w => ?_⟩
        · unfold asV
          rw [hd]
          cases d <;> first | exact absurd rfl (hne _) | rfl
        · cases d <;> first | exact absurd rfl (hne _) | (cases ok <;> simp [Instr.typeAssert, run_underlying hd])
      · subst h hok
        have ht := beq_f.1 ht
        cases d <;> first | exact absurd rfl (hne _) | simp [Instr.typeAssert, run_underlying hd, ht, hz]
  rcases hr with ⟨rfl, y, hy, rfl⟩ | ⟨rfl, rfl, z, hz, rfl⟩
  · obtain ⟨y', yy, h1, h2, h3⟩ := key.1 rfl
    rw [hy] at h1
    injection h1 with h1
    subst h1
    refine yl0 (u := if ok then .tuple #[yy, .bool true] else yy) hfr ?_ (fun w' a' w'' hf hs => ?_)
    · cases ok
      · exact h2
      · exact ⟨[yy, .bool true], ⟨yy, _, h2, ⟨_, [], rfl, rfl, rfl⟩, rfl⟩, rfl⟩
    · simp only [execOp, ho, hf.ev e, Sem.run_bind, h3, Result.andThen_ok, Sem.run_pure]
  · obtain ⟨zz, h1, h2⟩ := zvv_ok hz w
    refine yl0 (u := .tuple #[zz, .bool false]) hfr ⟨[zz, .bool false], ⟨zz, _, h2 E, ⟨_, [], rfl, rfl, rfl⟩, rfl⟩, rfl⟩ (fun w' a' w'' hf hs => ?_)
    obtain ⟨zz', h1', h2'⟩ := zvv_ok hz w''
    have hzz : zz' = zz := by
      unfold zvv at hz
      unfold zeroValue typeInfo at h1 h1'
      split at hz <;> first | (cases hz; done) | skip
      rename_i i hi
      split at hz <;> first | (cases hz; done) | skip
      rename_i z0 hz0
      simp [program, Sem.run, hi, hz0] at h1 h1'
      rw [← h1, ← h1']
    simp only [execOp, ho, hf.ev e, Sem.run_bind, key.2 rfl rfl z hz zz' w'' h1', Result.andThen_ok, Sem.run_pure, hzz]
theorem qopK_eq (op : Op) (P : Program) (F : Fm) (H : PT Ob) : qopK op P F H = qop P F H op := by
  cases op <;> first
    | rfl
    | (rename_i f a b; cases f <;> rfl)
    | (rename_i o t x; cases o <;> rfl)
theorem qneedK_eq (op : Op) (F : Fm) : qneedK op F = qneed F op := by cases op <;> rfl
theorem qop_ok {op : Op} {v : V} {rd : Option Nat} (hneed : ∀ z ∈ qneed F op, (z.den E.ρ).b = true) (hq : qop P F H op = some (v, rd)) (ho : o.op = op) (hF : FRel E F FL) (hfr : Fr n a FL) (hw : Wr w0 E H.get w) : Yl P E o a w v rd := by
  unfold qop at hq
  split at hq
  · unfold q_move at hq
    split at hq <;> first | (cases hq; done) | skip
    rename_i h1
    cases hq
    exact y_move hF hfr ho h1
  · unfold q_move at hq
    split at hq <;> first | (cases hq; done) | skip
    rename_i h1
    cases hq
    exact y_assign hF hfr ho h1
  · unfold q_nil at hq
    split at hq <;> first | (cases hq; done) | skip
    · rename_i h1
      cases hq
      exact y_nil hF hfr ho h1
    · rename_i h1
      cases hq
      exact y_nilF hF hfr ho h1
    · rename_i h1
      cases hq
      exact y_nilI hF hfr ho h1
  · unfold q_pick at hq
    split at hq <;> first | (cases hq; done) | skip
    rename_i h1 h2 h3
    cases hq
    exact y_pick hF hfr ho h1 h2 h3
  · unfold q_load at hq
    split at hq <;> first | (cases hq; done) | skip
    rename_i h1
    split at hq <;> first | (cases hq; done) | skip
    · rename_i h2 h3
      split at hq <;> first | (cases hq; done) | skip
      rename_i h4
      cases hq
      exact y_load hF hfr hw ho h1 h2 h3 h4
    · rename_i h2 h3
      split at hq <;> first | (cases hq; done) | skip
      rename_i h4
      split at hq <;> first | (cases hq; done) | skip
      rename_i h5
      cases hq
      exact y_loadA hF hfr hw ho h1 h2 h3 h4 h5
  · unfold q_fa at hq
    split at hq <;> first | (cases hq; done) | skip
    rename_i h1 h2
    split at hq <;> first | (cases hq; done) | skip
    rename_i h3
    cases hq
    exact y_fa hF hfr ho h1 h2 h3
  · unfold q_fld at hq
    split at hq <;> first | (cases hq; done) | skip
    rename_i h1 h2
    split at hq <;> first | (cases hq; done) | skip
    · rename_i h3
      split at hq <;> first | (cases hq; done) | skip
      rename_i h4
      cases hq
      exact y_fld hF hfr ho h1 h2 h3 h4
    · rename_i h3
      split at hq <;> first | (cases hq; done) | skip
      rename_i h4
      split at hq <;> first | (cases hq; done) | skip
      rename_i h5
      cases hq
      exact y_fldA hF hfr ho h1 h2 h3 h4 h5
  · unfold q_ia at hq
    split at hq <;> first | (cases hq; done) | skip
    · rename_i h1 h2
      split at hq <;> first | (cases hq; done) | skip
      rename_i h3 h4
      split at hq <;> first | (cases hq; done) | skip
      rename_i h5
      cases hq
      exact y_ia hF hfr ho h1 h2 h3 h4 h5
    · rename_i h1 h2
      split at hq <;> first | (cases hq; done) | skip
      rename_i h3
      split at hq <;> first | (cases hq; done) | skip
      rename_i h4 h5
      cases hq
      exact y_iaA hF hfr ho h1 h2 h3 h4 h5
  · unfold q_ext at hq
    split at hq <;> first | (cases hq; done) | skip
    rename_i h1
    split at hq <;> first | (cases hq; done) | skip
    rename_i h2
    cases hq
    exact y_ext hF hfr ho h1 h2
  · unfold q_build at hq
    split at hq <;> first | (cases hq; done) | skip
    · rename_i h1 h2 h3
      split at hq <;> first | (cases hq; done) | skip
      rename_i h4
      split at hq <;> first | (cases hq; done) | skip
      rename_i h5
      cases hq
      exact y_build hF hfr ho h1 h2 h3 h4 h5
    · rename_i h1 h2 h3
      split at hq <;> first | (cases hq; done) | skip
      rename_i h4
      split at hq <;> first | (cases hq; done) | skip
      rename_i h5
      cases hq
      exact y_buildA hF hfr ho h1 h2 h3 h4 h5
  · unfold q_index at hq
    split at hq <;> first | (cases hq; done) | skip
    rename_i h1 h2
    split at hq <;> first | (cases hq; done) | skip
    rename_i h3
    split at hq <;> first | (cases hq; done) | skip
    rename_i h4 h5 h6
    split at hq <;> first | (cases hq; done) | skip
    rename_i h7
    cases hq
    exact y_index hF hfr ho h1 h2 h3 h4 h5 h6 h7
  · unfold q_mf at hq
    split at hq <;> first | (cases hq; done) | skip
    rename_i h1 h2
    cases hq
    exact y_mf hF hfr ho h1 h2
  · unfold q_mi at hq
    split at hq <;> first | (cases hq; done) | skip
    rename_i h1 h2
    cases hq
    exact y_mi hF hfr ho h1 h2
  · unfold q_bin at hq
    split at hq <;> first | (cases hq; done) | skip
    rename_i h1 h2
    split at hq <;> first | (cases hq; done) | skip
    rename_i h3
    cases hq
    exact y_bin hF hfr ho h1 h2 h3 hneed
  · unfold q_not at hq
    split at hq <;> first | (cases hq; done) | skip
    rename_i h1
    cases hq
    exact y_not hF hfr ho h1
  · unfold q_neg at hq
    split at hq <;> first | (cases hq; done) | skip
    rename_i h1 h2
    split at hq <;> first | (cases hq; done) | skip
    cases hq
    exact y_neg (k' := ‹_›) hF hfr ho h1
  · unfold q_conv at hq
    split at hq <;> first | (cases hq; done) | skip
    rename_i h1 h2 h3
    cases hq
    exact y_conv hF hfr ho h1 h2 h3
  · unfold q_slice at hq
    split at hq <;> first | (cases hq; done) | skip
    · rename_i h1 h2 h3 h4
      split at hq <;> first | (cases hq; done) | skip
      rename_i h5
      split at hq <;> first | (cases hq; done) | skip
      rename_i h6
      exact y_slice hF hfr ho h1 h2 h3 h4 h5 h6 hq
    · rename_i h1 h2 h3 h4
      split at hq <;> first | (cases hq; done) | skip
      rename_i h5
      split at hq <;> first | (cases hq; done) | skip
      rename_i h6
      exact y_sliceA hF hfr ho h1 h2 h3 h4 h5 h6 hq
    · rename_i h1 h2 h3 h4
      split at hq <;> first | (cases hq; done) | skip
      rename_i h5 h6 h7
      split at hq <;> first | (cases hq; done) | skip
      rename_i h8
      cases hq
      exact y_slice0 hF hfr ho h1 h2 h3 h4 h5 h8 h6 h7
  · unfold q_ta at hq
    split at hq <;> first | (cases hq; done) | skip
    rename_i h1
    split at hq <;> first | (cases hq; done) | skip
    · rename_i h2
      split at hq <;> first | (cases hq; done) | skip
      rename_i h3
      cases hq
      exact y_ta hF hfr ho h1 h2 (.inl ⟨rfl, _, h3, rfl⟩)
    · rename_i h2
      split at hq <;> first | (cases hq; done) | skip
      rename_i h3
      cases hq
      exact y_ta hF hfr ho h1 h2 (.inr ⟨rfl, rfl, _, h3, rfl⟩)
  · unfold q_call at hq
    split at hq <;> first | (cases hq; done) | skip
    · rename_i h1 h2
      split at hq <;> first | (cases hq; done) | skip
      rename_i h3
      cases hq
      exact y_len hF hfr ho h1 h2 h3 (.inl ⟨_, _, _, rfl⟩)
    · rename_i h1 h2
      split at hq <;> first | (cases hq; done) | skip
      rename_i h3
      cases hq
      exact y_len hF hfr ho h1 h2 h3 (.inr (.inr ⟨rfl, rfl⟩))
    · rename_i h1 h2
      split at hq <;> first | (cases hq; done) | skip
      rename_i h3
      cases hq
      exact y_len hF hfr ho h1 h2 h3 (.inr (.inl ⟨rfl, rfl⟩))
    · rename_i h1 h2
      split at hq <;> first | (cases hq; done) | skip
      rename_i h3
      cases hq
      exact y_cap hF hfr ho h1 h2 h3 (.inl ⟨_, _, _, rfl⟩)
    · rename_i h1 h2
      split at hq <;> first | (cases hq; done) | skip
      rename_i h3
      cases hq
      exact y_cap hF hfr ho h1 h2 h3 (.inr ⟨rfl, rfl⟩)
    · rename_i h1 h2
      split at hq <;> first | (cases hq; done) | skip
      rename_i h3
      cases hq
      exact y_mm (lo := true) hF hfr ho h1 h2 h3
    · rename_i h1 h2
      split at hq <;> first | (cases hq; done) | skip
      rename_i h3
      cases hq
      exact y_mm (lo := false) hF hfr ho h1 h2 h3
  · cases hq
end
end Go.Run
