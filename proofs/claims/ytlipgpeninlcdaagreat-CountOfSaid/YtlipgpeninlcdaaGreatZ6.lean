/-
What single operations of a run yield, in memory as it is: structs put together, parts of rows; all of them.
-/
import Derived.Test.YtlipgpeninlcdaaGreatZ5
namespace Go.Run
open Go.Eng
set_option linter.unusedVariables false
set_option linter.unusedSimpArgs false
theorem fold_set {off : Nat} : ∀ (l : List Value) (k : Nat) (cs : Array Value), off + k + l.length ≤ cs.size → ((l.zipIdx k).foldl (fun cs p => cs.setIfInBounds (off + p.2) p.1) cs).toList = cs.toList.take (off + k) ++ (l ++ cs.toList.drop (off + k + l.length))
  | [], k, cs, h => by simp
  | v :: r, k, cs, h => by
    simp only [List.length_cons] at h
    rw [List.zipIdx_cons, List.foldl_cons, fold_set r (k + 1) _ (by simp; omega)]
    simp only [Array.toList_setIfInBounds, List.length_cons]
    have hlt : off + k < cs.toList.length := by simp; omega
    rw [show off + (k + 1) = off + k + 1 by omega, List.take_succ_eq_append_getElem (by simpa using hlt), List.getElem_set_self, List.take_set_of_le (by omega), List.drop_set_of_lt (by omega)]
    simp [Nat.add_assoc, Nat.add_comm 1]
theorem fillG_ok {E : Env} {pl pl' : Nat → Option (Nat × Nat)} (hpl : ∀ i q, pl i = some q → pl' i = some q) : ∀ {vs : List (Nat × V)} {z cs : List V} {us : List Value} {zs : Array Value}, fillG pl z vs = some cs → VRs E z zs.toList → VRs E (vs.map (·.2)) us →
    ∃ ws : Array Value, VRs E cs ws.toList ∧ Instr.fill pl' zs ((vs.map (·.1)).zip us) = some ws
  | [], z, cs, us, zs, h, hz, hv => by
    injection h with h
    subst h
    exact ⟨zs, hz, rfl⟩
  | (i, v) :: r, z, cs, us, zs, h, hz, hv => by
    obtain ⟨u, us', hu, hus, rfl⟩ := hv
    unfold fillG at h
    split at h
    · rename_i off sz hp
      split at h
      · rename_i z' hs hup
        have hc := cells_ok hu
        obtain ⟨h1, h2⟩ := upd_ok hup hz hc
        have hs := Nat.eq_of_beq_eq_true hs
        rw [ln_eq, ← hc.len, Array.length_toList] at hs
        rw [← hc.len, ← hz.len, Array.length_toList, Array.length_toList] at h1
        have hfold : (u.cells.zipIdx.foldl (fun cs p => cs.setIfInBounds (off + p.2) p.1) zs).toList = zs.toList.take off ++ (u.cells.toList ++ zs.toList.drop (off + u.cells.toList.length)) := by
          have := fold_set (off := off) u.cells.toList 0 zs (by simpa using h1)
          rw [← Array.foldl_toList, Array.toList_zipIdx]
          simpa using this
        obtain ⟨ws, hw, hf⟩ := fillG_ok hpl (zs := u.cells.zipIdx.foldl (fun cs p => cs.setIfInBounds (off + p.2) p.1) zs) h (by rw [hfold]; exact h2) hus
        refine ⟨ws, hw, ?_⟩
        simp only [List.map_cons, List.zip_cons_cons, Instr.fill, hpl _ _ hp]
        have c1 : ¬ (u.cells.size ≠ sz ∨ off + u.cells.size > zs.size) := by
          intro h; rcases h with h | h <;> omega
        simp only [Bool.decide_or, ne_eq, decide_not, hs]
        have c2 : ¬ zs.size < off + sz := by rw [← hs]; omega
        simp [c2]
        simpa using hf
      · cases h
    · cases h
theorem plc_ok {P : Program} : ∀ {fs : List Field} {q : List (Nat × Nat)}, plc P fs = some q → fs.mapM (fun f => (P.info? f.type).map fun i => (f.offset, i.size)) = some q
  | [], q, h => by injection h with h; subst h; rfl
  | f :: r, q, h => by
    unfold plc at h
    split at h
    · rename_i m q' h1 h2
      injection h with h
      subst h
      have ih := plc_ok h2
      obtain ⟨i, hi, rfl⟩ := Option.map_eq_some_iff.1 (szv_ok h1)
      simp [List.mapM_cons, hi, ih]
    · cases h
theorem eps_ok {E : Env} {F : Fm} {FL : FL} (h : FRel E F FL) : ∀ {ps : List (Nat × Operand)} {vs : List (Nat × V)}, eps F ps = some vs → ∃ us, evs FL (ps.map (·.2)) = some us ∧ VRs E (vs.map (·.2)) us ∧ vs.map (·.1) = ps.map (·.1)
  | [], vs, hv => by injection hv with hv; subst hv; exact ⟨[], rfl, rfl, rfl⟩
  | (i, x) :: r, vs, hv => by
    unfold eps at hv
    cases h1 : eo F x with
    | none => rw [h1] at hv; cases hv
    | some v => cases h2 : eps F r with
      | none => rw [h1, h2] at hv; cases hv
      | some ws =>
        rw [h1, h2] at hv
        injection hv with hv
        subst hv
        obtain ⟨u, e1, r1⟩ := eo_ok h h1
        obtain ⟨us, e2, r2, e3⟩ := eps_ok h h2
        exact ⟨u :: us, by simp only [List.map_cons, evs, e1, e2], ⟨u, us, r1, r2, rfl⟩, by simp [e3]⟩
noncomputable def iv : IntKind × Nat → Value := fun p => .int p.1 p.2
theorem run_slice {P : Program} {t e : TypeId} {m : Nat} (ht : P.underlying t = some (.slice e)) (hm : (P.info? e).map (·.size) = some m) (ad : Option Addr) (len cap : Nat) (lo hi mx : Option (IntKind × Nat)) (l h mm : Nat) (hl : (lo.map (·.2)).getD 0 = l) (hh : (hi.map (·.2)).getD len = h) (hmm : (mx.map (·.2)).getD cap = mm) (h1 : l ≤ h) (h2 : h ≤ mm) (h3 : mm ≤ cap) (hx : hi.isSome = true ∨ mx = none) (w : World) :
    (Instr.sliceAt t (.slice ad len cap) (lo.map iv) (hi.map iv) (mx.map iv)).run P w = .ok (.slice (if mm = l then ad else ad.map (·.add (l * m))) (h - l) (mm - l)) w := by
  have g : ∀ (k : IntKind) (x y : Nat) (code : BoundsCode), x ≤ y → (Instr.sliceBound (.int k (x : Int)) y code).run P w = .ok x w := by
    intro k x y code hxy
    have e1 : (0 : Int) ≤ (x : Int) := by omega
    have e2 : (x : Int) ≤ (y : Int) := by omega
    simp [Instr.sliceBound, asIntOf, e1, e2, hxy]
  subst hl hh hmm
  cases mx with
  | none => cases hi with
    | none => cases lo with
      | none => simp at h1 h2; simp [Instr.sliceAt, run_underlying ht, Instr.slice, Instr.sliceBounds, run_size hm]
      | some p =>
        simp at h1 h2
        simp [Instr.sliceAt, run_underlying ht, Instr.slice, Instr.sliceBounds, run_size hm, iv, g p.1 p.2 len _ h1]
    | some q =>
      cases lo with
      | none => simp at h1 h2; simp [Instr.sliceAt, run_underlying ht, Instr.slice, Instr.sliceBounds, run_size hm, iv, g q.1 q.2 cap _ h2]
      | some p =>
        simp at h1 h2
        simp [Instr.sliceAt, run_underlying ht, Instr.slice, Instr.sliceBounds, run_size hm, iv, g q.1 q.2 cap _ h2, g p.1 p.2 q.2 _ h1]
  | some r => cases hi with
    | none => simp at hx
    | some q =>
      cases lo with
      | none =>
        simp at h1 h2 h3
        simp [Instr.sliceAt, run_underlying ht, Instr.slice, Instr.sliceBounds, run_size hm, iv, g r.1 r.2 cap _ h3, g q.1 q.2 r.2 _ h2]
      | some p =>
        simp at h1 h2 h3
        simp [Instr.sliceAt, run_underlying ht, Instr.slice, Instr.sliceBounds, run_size hm, iv, g r.1 r.2 cap _ h3, g q.1 q.2 r.2 _ h2, g p.1 p.2 q.2 _ h1]
theorem run_sliceA {P : Program} {t e : TypeId} {m len : Nat} (ht : P.underlying t = some (.array len e)) (hm : (P.info? e).map (·.size) = some m) (ad : Addr) (lo hi mx : Option (IntKind × Nat)) (l h mm : Nat) (hl : (lo.map (·.2)).getD 0 = l) (hh : (hi.map (·.2)).getD len = h) (hmm : (mx.map (·.2)).getD len = mm) (h1 : l ≤ h) (h2 : h ≤ mm) (h3 : mm ≤ len) (hx : hi.isSome = true ∨ mx = none) (w : World) :
    (Instr.sliceAt t (.pointer (some ad)) (lo.map iv) (hi.map iv) (mx.map iv)).run P w = .ok (.slice (some (if mm = l then ad else ad.add (l * m))) (h - l) (mm - l)) w := by
  have g : ∀ (k : IntKind) (x y : Nat) (code : BoundsCode), x ≤ y → (Instr.sliceBound (.int k (x : Int)) y code).run P w = .ok x w := by
    intro k x y code hxy
    have e1 : (0 : Int) ≤ (x : Int) := by omega
    have e2 : (x : Int) ≤ (y : Int) := by omega
    simp [Instr.sliceBound, asIntOf, e1, e2, hxy]
  subst hl hh hmm
  cases mx with
  | none => cases hi with
    | none => cases lo with
      | none => simp at h1 h2; simp [Instr.sliceAt, run_underlying ht, Instr.sureAddr, Instr.sliceBounds, run_size hm]
      | some p =>
        simp at h1 h2
        simp [Instr.sliceAt, run_underlying ht, Instr.sureAddr, Instr.sliceBounds, run_size hm, iv, g p.1 p.2 len _ h1]
    | some q =>
      cases lo with
      | none => simp at h1 h2; simp [Instr.sliceAt, run_underlying ht, Instr.sureAddr, Instr.sliceBounds, run_size hm, iv, g q.1 q.2 len _ h2]
      | some p =>
        simp at h1 h2
        simp [Instr.sliceAt, run_underlying ht, Instr.sureAddr, Instr.sliceBounds, run_size hm, iv, g q.1 q.2 len _ h2, g p.1 p.2 q.2 _ h1]
  | some r => cases hi with
    | none => simp at hx
    | some q =>
      cases lo with
      | none =>
        simp at h1 h2 h3
        simp [Instr.sliceAt, run_underlying ht, Instr.sureAddr, Instr.sliceBounds, run_size hm, iv, g r.1 r.2 len _ h3, g q.1 q.2 r.2 _ h2]
      | some p =>
        simp at h1 h2 h3
        simp [Instr.sliceAt, run_underlying ht, Instr.sureAddr, Instr.sliceBounds, run_size hm, iv, g r.1 r.2 len _ h3, g q.1 q.2 r.2 _ h2, g p.1 p.2 q.2 _ h1]
theorem optN_ok {E : Env} {F : Fm} {FL : FL} {n : Sz} {a : Act} (hF : FRel E F FL) (hfr : Fr n a FL) {x : Option Operand} {r : Option Nat} (h : optN F x = some r) : ∃ q : Option (IntKind × Nat), x.map a.eval = q.map iv ∧ q.map (·.2) = r := by
  cases x with
  | none => injection h with h; subst h; exact ⟨none, rfl, rfl⟩
  | some y =>
    unfold optN at h
    split at h
    · cases ‹some y = none›
    · rename_i y' e
      injection e with e
      subst e
      split at h
      · rename_i k m hy
        injection h with h
        subst h
        obtain ⟨u, e1, r1⟩ := eo_ok hF hy
        rw [show u = .int k (.ofNat m) from r1] at e1
        exact ⟨some (k, m), by simp [iv, hfr.ev e1], rfl⟩
      · cases h
section
variable {P : Program} {E : Env} {F : Fm} {FL : FL} {n : Sz} {a : Act} {w0 : World} {H : PT Ob} {c : Nat} {w : World} {o : Oper}
theorem y_build {t : TypeId} {ps : Array (Nat × Operand)} {fs : Array Field} {z cs : List V} {vs : List (Nat × V)} {q : List (Nat × Nat)} (hF : FRel E F FL) (hfr : Fr n a FL) (ho : o.op = .build t ps) (hz : zv P t = some z) (ht : P.underlying t = some (.struct fs)) (hv : eps F ps.toList = some vs) (hq : plc P fs.toList = some q) (hc : fillG (nth q) z vs = some cs) : Yl P E o a w (.agg cs) none := by
  obtain ⟨zz, h1, h2⟩ := zv_ok (E := E) hz
  obtain ⟨us, h3, h4, h5⟩ := eps_ok hF hv
  obtain ⟨ws, h6, h7⟩ := fillG_ok (pl' := fun i => q.toArray[i]?) (fun i x hx => by rw [nth_eq] at hx; simpa using hx) hc h2 h4
  rw [h5] at h7
  exact yl0 (u := .agg ws) hfr ⟨ws.toList, h6, by simp⟩ (fun w' => v_build ws ho h1 ht (plc_ok hq) h3 h7)
theorem y_buildA {t : TypeId} {ps : Array (Nat × Operand)} {len : Nat} {e : TypeId} {m : Nat} {z cs : List V} {vs : List (Nat × V)} (hF : FRel E F FL) (hfr : Fr n a FL) (ho : o.op = .build t ps) (hz : zv P t = some z) (ht : P.underlying t = some (.array len e)) (hv : eps F ps.toList = some vs) (hm : szv P e = some m) (hc : fillG (fun i => some (Nat.mul i m, m)) z vs = some cs) : Yl P E o a w (.agg cs) none := by
  obtain ⟨zz, h1, h2⟩ := zv_ok (E := E) hz
  obtain ⟨i, hi, hzz⟩ := Option.bind_eq_some_iff.1 h1
  obtain ⟨us, h3, h4, h5⟩ := eps_ok hF hv
  obtain ⟨ws, h6, h7⟩ := fillG_ok (pl' := fun i => some (i * m, m)) (fun i x hx => hx) hc h2 h4
  rw [h5] at h7
  have e3 : (ps.map fun (i, x) => (i, a.eval x)).toList = (ps.toList.map (·.1)).zip us := by
    rw [← hfr.evs h3]
    simp [List.zip_map', Function.comp_def]
  refine ⟨.agg ws, ⟨ws.toList, h6, by simp⟩, fun w' _ => ?_⟩
  have hzv : (zeroValue t).run P w' = .ok zz w' := by
    unfold zeroValue typeInfo
    simp [program, Sem.run, hi, hzz]
  simp only [execOp, ho, Instr.build, Sem.run_bind, hzv, Result.andThen_ok, run_underlying ht, run_size (szv_ok hm), e3, h7, Sem.run_pure]
theorem y_index {t e : TypeId} {x y : Operand} {len k : Nat} {kd : IntKind} {cs : List V} {v : V} (hF : FRel E F FL) (hfr : Fr n a FL) (ho : o.op = .index t x y) (hx : eo F x = some (.agg cs)) (hy : eo F y = some (.int kd (.lit (.ofNat k)))) (ht : P.underlying t = some (.array len e)) (hk : Nat.blt k len = true) (hm : szv P e = some 1) (ha : agv P e = some false) (hv : nth cs k = some v) : Yl P E o a w v none := by
  obtain ⟨u, e1, us, h0, rfl⟩ := eo_ok hF hx
  obtain ⟨u2, e2, r2⟩ := eo_ok hF hy
  rw [show u2 = .int kd (.ofNat k) from r2] at e2
  obtain ⟨d, hd, hn⟩ := agv_ok ha
  have hk' : k < len := Nat.le_of_ble_eq_true hk
  rw [nth_eq] at hv
  obtain ⟨u, hu, hr⟩ := h0.at_ hv
  refine yl0 hfr hr (fun w' a' w'' hf hs => ?_)
  have c1 : (0 : Int) ≤ (k : Int) := Int.natCast_nonneg k
  have c2 : ((k : Int) < (len : Int)) := by omega
  simp [execOp, ho, hf.ev e1, hf.ev e2, Instr.index, asIntOf, run_underlying ht, c1, c2, run_size (szv_ok hm), part, run_isAgg0 hd hn, hu]
  omega
theorem capLe_ok {E : Env} {h len m : Nat} {cap : Cap} (hc : cap.ok E m) (hl : len ≤ m) (h1 : capLe h len cap = true) : h ≤ m := by
  cases cap with
  | n c => rw [show m = c from hc]; exact Nat.le_of_ble_eq_true h1
  | u i d => exact Nat.le_trans (Nat.le_of_ble_eq_true h1) hl
theorem addr_add (g off k : Nat) : (⟨g, off, none⟩ : Addr).add k = ⟨g, off + k, none⟩ := by
  unfold Addr.add
  split
  · rename_i h; rw [h]; rfl
  · rfl
/-- A part of a row, as values. -/
theorem slv_ok {b off len sz l h g cp : Nat} {cap : Cap} {mx : Option Nat} {ok : Bool} {v : V} {rd : Option Nat} (hs : slv b off len cap sz l h mx ok = some (v, rd)) (hg : E.ν b = some g) (hc : cap.ok E cp) (hl : len ≤ cp) :
    rd = none ∧ ok = true ∧ l ≤ h ∧ h ≤ mx.getD cp ∧ mx.getD cp ≤ cp ∧ VR E v (.slice (if mx.getD cp = l then some ⟨g, off, none⟩ else some ⟨g, off + l * sz, none⟩) (h - l) (mx.getD cp - l)) := by
  unfold slv at hs
  split at hs <;> first | (cases hs; done) | skip
  rename_i hlh hhc
  have hlh' := Nat.le_of_ble_eq_true hlh
  have hhc' := capLe_ok hc hl hhc
  split at hs
  · split at hs
    · rename_i c
      injection hs with hs
      injection hs with e1 e2
      subst e1 e2
      have hcc : cp = c := hc
      subst hcc
      refine ⟨rfl, rfl, hlh', hhc', Nat.le_refl _, g, cp - l, hg, rfl, by show h - l ≤ cp - l; omega, ?_⟩
      simp only [Option.getD_none]
      by_cases e : cp = l
      · rw [if_pos e, show Nat.beq l cp = true from beq_t.2 e.symm]
        rfl
      · rw [if_neg e, show Nat.beq l cp = false from beq_f.2 (fun x => e x.symm)]
        rfl
    · rename_i i d
      split at hs
      rotate_left
      · split at hs <;> first | (cases hs; done) | skip
        rename_i hz he
        have he := Nat.eq_of_beq_eq_true he
        injection hs with hs
        injection hs with e1 e2
        subst e1 e2 he
        refine ⟨rfl, rfl, hlh', hhc', Nat.le_refl _, ?_⟩
        show ∃ a c, _
        rw [Nat.sub_self]
        split
        · exact ⟨_, _, rfl⟩
        · exact ⟨_, _, rfl⟩
      rename_i hz
      injection hs with hs
      injection hs with e1 e2
      subst e1 e2
      obtain ⟨k, hk, rfl⟩ := hc
      refine ⟨rfl, rfl, hlh', hhc', Nat.le_refl _, g, k - d - l, hg, ⟨k, hk, ?_⟩, ?_, ?_⟩
      · show _ = k - (d + l); omega
      · show h - l ≤ _; omega
      · simp only [Option.getD_none]
        rw [Bool.or_eq_true] at hz
        by_cases e : k - d = l
        · rw [if_pos e]
          rcases hz with hz | hz
          · have := Nat.eq_of_beq_eq_true hz
            subst this
            show Value.slice (some ⟨g, off, none⟩) _ _ = .slice (some ⟨g, off + 0 * sz, none⟩) _ _
            rw [Nat.zero_mul, Nat.add_zero]; rfl
          · have := Nat.le_of_ble_eq_true hz
            exact absurd e (by omega)
        · rw [if_neg e]; rfl
  · rename_i m
    split at hs <;> first | (cases hs; done) | skip
    rename_i h1 h2
    have h1' := Nat.le_of_ble_eq_true h1
    have h2' := capLe_ok hc hl h2
    injection hs with hs
    injection hs with e1 e2
    subst e1 e2
    refine ⟨rfl, rfl, hlh', h1', h2', g, m - l, hg, rfl, by show h - l ≤ m - l; omega, ?_⟩
    simp only [Option.getD_some]
    by_cases e : m = l
    · rw [if_pos e, show Nat.beq l m = true from beq_t.2 e.symm]
      rfl
    · rw [if_neg e, show Nat.beq l m = false from beq_f.2 (fun x => e x.symm)]
      rfl
theorem getD_map {q : Option (IntKind × Nat)} {r : Option Nat} (h : q.map (·.2) = r) (d : Nat) : (q.map (·.2)).getD d = r.getD d := by rw [h]
theorem hx_of {q s : Option (IntKind × Nat)} {hi mx : Option Nat} (h1 : q.map (·.2) = hi) (h2 : s.map (·.2) = mx) (h : (hi.isSome || !mx.isSome) = true) : q.isSome = true ∨ s = none := by
  subst h1 h2
  cases q <;> cases s <;> simp at h ⊢
theorem y_slice {t e : TypeId} {x : Operand} {xl xh xm : Option Operand} {b off len sz : Nat} {cap : Cap} {lo hi mx : Option Nat} {v : V} {rd : Option Nat} (hF : FRel E F FL) (hfr : Fr n a FL) (ho : o.op = .slice t x xl xh xm) (hx : eo F x = some (.sl b off len cap)) (h1 : optN F xl = some lo) (h2 : optN F xh = some hi) (h3 : optN F xm = some mx) (ht : elv P t = some e) (hm : szv P e = some sz)
    (hs : slv b off len cap sz (lo.getD 0) (hi.getD len) mx (hi.isSome || !mx.isSome) = some (v, rd)) : Yl P E o a w v rd := by
  obtain ⟨u, e1, g, cp, hg, hc, hl, rfl⟩ := eo_ok hF hx
  obtain ⟨q1, a1, b1⟩ := optN_ok hF hfr h1
  obtain ⟨q2, a2, b2⟩ := optN_ok hF hfr h2
  obtain ⟨q3, a3, b3⟩ := optN_ok hF hfr h3
  obtain ⟨rfl, k1, k2, k3, k4, k5⟩ := slv_ok hs hg hc hl
  refine ⟨_, k5, fun w' _ => ?_⟩
  have hr := run_slice (elv_ok ht) (szv_ok hm) (some ⟨g, off, none⟩) len cp q1 q2 q3 (lo.getD 0) (hi.getD len) (mx.getD cp) (getD_map b1 0) (getD_map b2 len) (getD_map b3 cp) k2 k3 k4 (hx_of b2 b3 k1) w'
  simp only [execOp, ho, hfr.ev e1, a1, a2, a3, Sem.run_bind, hr, Result.andThen_ok, Sem.run_pure, Option.map_some, addr_add]
theorem y_sliceA {t e : TypeId} {x : Operand} {xl xh xm : Option Operand} {b off len sz : Nat} {lo hi mx : Option Nat} {v : V} {rd : Option Nat} (hF : FRel E F FL) (hfr : Fr n a FL) (ho : o.op = .slice t x xl xh xm) (hx : eo F x = some (.ptr b off)) (h1 : optN F xl = some lo) (h2 : optN F xh = some hi) (h3 : optN F xm = some mx) (ht : P.underlying t = some (.array len e)) (hm : szv P e = some sz)
    (hs : slv b off len (.n len) sz (lo.getD 0) (hi.getD len) mx (hi.isSome || !mx.isSome) = some (v, rd)) : Yl P E o a w v rd := by
  obtain ⟨u, e1, g, hg, rfl⟩ := eo_ok hF hx
  obtain ⟨q1, a1, b1⟩ := optN_ok hF hfr h1
  obtain ⟨q2, a2, b2⟩ := optN_ok hF hfr h2
  obtain ⟨q3, a3, b3⟩ := optN_ok hF hfr h3
  obtain ⟨rfl, k1, k2, k3, k4, k5⟩ := slv_ok (cp := len) hs hg rfl (Nat.le_refl _)
  refine ⟨_, k5, fun w' _ => ?_⟩
  have hr := run_sliceA ht (szv_ok hm) ⟨g, off, none⟩ q1 q2 q3 (lo.getD 0) (hi.getD len) (mx.getD len) (getD_map b1 0) (getD_map b2 len) (getD_map b3 len) k2 k3 k4 (hx_of b2 b3 k1) w'
  simp only [execOp, ho, hfr.ev e1, a1, a2, a3, Sem.run_bind, hr, Result.andThen_ok, Sem.run_pure, addr_add]
  split <;> rfl
theorem y_slice0 {t e : TypeId} {x : Operand} {xl xh xm : Option Operand} {sz : Nat} {lo hi mx : Option Nat} (hF : FRel E F FL) (hfr : Fr n a FL) (ho : o.op = .slice t x xl xh xm) (hx : eo F x = some .nsl) (h1 : optN F xl = some lo) (h2 : optN F xh = some hi) (h3 : optN F xm = some mx) (ht : elv P t = some e) (hm : szv P e = some sz)
    (hz : (Nat.beq (lo.getD 0) 0 && Nat.beq (hi.getD 0) 0 && Nat.beq (mx.getD 0) 0) = true) (hk : (hi.isSome || !mx.isSome) = true) : Yl P E o a w .nsl none := by
  obtain ⟨u, e1, r1⟩ := eo_ok hF hx
  rw [show u = .slice none 0 0 from r1] at e1
  obtain ⟨q1, a1, b1⟩ := optN_ok hF hfr h1
  obtain ⟨q2, a2, b2⟩ := optN_ok hF hfr h2
  obtain ⟨q3, a3, b3⟩ := optN_ok hF hfr h3
  rw [Bool.and_eq_true, Bool.and_eq_true] at hz
  obtain ⟨⟨z1, z2⟩, z3⟩ := hz
  have z1 := Nat.eq_of_beq_eq_true z1
  have z2 := Nat.eq_of_beq_eq_true z2
  have z3 := Nat.eq_of_beq_eq_true z3
  refine ⟨.slice none 0 0, rfl, fun w' _ => ?_⟩
  have hr := run_slice (elv_ok ht) (szv_ok hm) none 0 0 q1 q2 q3 0 0 0 ((getD_map b1 0).trans z1) ((getD_map b2 0).trans z2) ((getD_map b3 0).trans z3) (Nat.le_refl _) (Nat.le_refl _) (Nat.le_refl _) (hx_of b2 b3 hk) w'
  simp only [execOp, ho, hfr.ev e1, a1, a2, a3, Sem.run_bind, hr, Result.andThen_ok, Sem.run_pure]
  simp
end
end Go.Run
