/-
What single operations of a run yield, in memory as it is.
-/
import Derived.Test.YtlipgpeninlcdaaGreatZ2
namespace Go.Run
open Go.Eng
set_option linter.unusedVariables false
set_option linter.unusedSimpArgs false
/-! what a program says of its types -/
theorem nAgg_eq (d : TypeDesc) : nAgg d = notAgg d := by cases d <;> rfl
theorem szv_ok {P : Program} {t : TypeId} {m : Nat} (h : szv P t = some m) : (P.info? t).map (·.size) = some m := by
  unfold szv at h
  split at h
  · rename_i i hi; rw [hi]; exact h
  · cases h
theorem agv_ok {P : Program} {t : TypeId} {b : Bool} (h : agv P t = some b) : ∃ d, P.underlying t = some d ∧ notAgg d = !b := by
  unfold agv at h
  split at h
  · rename_i d hd
    injection h with h
    exact ⟨d, hd, by rw [← nAgg_eq, ← h, Bool.not_not]⟩
  · cases h
theorem elv_ok {P : Program} {t e : TypeId} (h : elv P t = some e) : P.underlying t = some (.slice e) := by
  unfold elv at h
  split at h
  · rename_i e' hd; injection h with h; rw [hd, h]
  · cases h
theorem fdv_ok {P : Program} {s : TypeId} {f : Nat} {fd : Field} (h : fdv P s f = some fd) : ∃ fs, P.underlying s = some (.struct fs) ∧ fs[f]? = some fd := by
  unfold fdv at h
  split at h
  · rename_i fs hd
    rw [nth_eq] at h
    exact ⟨fs, hd, by simpa using h⟩
  · cases h
theorem ikv_ok {P : Program} {t : TypeId} {k : IntKind} (h : ikv P t = some k) : P.underlying t = some (.int k) := by
  unfold ikv at h
  split at h
  · rename_i e' hd; injection h with h; rw [hd, h]
  · cases h
theorem ofC_ok {E : Env} {c : Value} {v : V} (h : ofC c = some v) : VR E v c := by
  unfold ofC at h
  split at h <;> first | (cases h; done) | (injection h with h; subst h; rfl)
theorem ofCs_ok {E : Env} : ∀ {cs : List Value} {vs : List V}, ofCs cs = some vs → VRs E vs cs
  | [], vs, h => by injection h with h; subst h; rfl
  | c :: r, vs, h => by
    unfold ofCs at h
    cases h1 : ofC c with
    | none => rw [h1] at h; cases h
    | some v => cases h2 : ofCs r with
      | none => rw [h1, h2] at h; cases h
      | some ws =>
        rw [h1, h2] at h
        injection h with h
        subst h
        exact ⟨c, r, ofC_ok h1, ofCs_ok h2, rfl⟩
theorem zv_ok {P : Program} {E : Env} {t : TypeId} {vs : List V} (h : zv P t = some vs) : ∃ z, (P.info? t).bind (·.zero) = some z ∧ VRs E vs z.cells.toList := by
  unfold zv at h
  split at h
  · rename_i i hi
    split at h
    · rename_i z hz
      exact ⟨z, by rw [hi]; exact hz, ofCs_ok h⟩
    · cases h
  · cases h
/-! the world of a single operation -/
theorem ws0 (w : World) : WS w ⟨[], []⟩ w [] := (Tri.nil w).toWS
theorem ws1 {w : World} {g : Nat} {obj : Obj} (h : w.heap[g]? = some obj) : WS w ⟨[], []⟩ w [.b g obj] :=
  { toAgree := Agree.refl _ _, at_ := fun n o hp => by
      rcases List.mem_cons.1 hp with hp | hp
      · injection hp with e1 e2; subst e1 e2; exact h
      · cases hp
    fact := fun φ hφ => by
      rcases List.mem_cons.1 hφ with hp | hp
      · cases hp
      · cases hp }
/-- What an operation yields, whatever becomes of blocks that it does not look at. -/
def Yl (P : Program) (E : Env) (o : Oper) (a : Act) (w : World) (v : V) (rd : Option Nat) : Prop :=
  ∃ u, VR E v u ∧ ∀ w', (∀ b g, rd = some b → E.ν b = some g → w'.heap[g]? = w.heap[g]?) → (execOp a.eval o).run P w' = .ok (.value u) w'
section
variable {P : Program} {E : Env} {F : Fm} {FL : FL} {n : Sz} {a : Act} {w0 : World} {H : PT Ob} {c : Nat} {w : World} {o : Oper}
/-- An operation on values alone. -/
theorem yl0 {v : V} {u : Value} (hfr : Fr n a FL) (hu : VR E v u) (h : ∀ w', OpV P n w' ⟨[], []⟩ o FL [] u) : Yl P E o a w v none :=
  ⟨u, hu, fun w' _ => h w' a w' hfr (ws0 w')⟩
/-- One that looks at a block. -/
theorem yl1 {v : V} {u : Value} {b g : Nat} {obj : Obj} (hfr : Fr n a FL) (hu : VR E v u) (hg : E.ν b = some g) (ho : w.heap[g]? = some obj) (h : ∀ w', OpV P n w' ⟨[], []⟩ o FL [.b g obj] u) : Yl P E o a w v (some b) :=
  ⟨u, hu, fun w' hk => h w' a w' hfr (ws1 ((hk b g rfl hg).trans ho))⟩
theorem y_move {x : Operand} {v : V} (hF : FRel E F FL) (hfr : Fr n a FL) (ho : o.op = .move x) (hx : eo F x = some v) : Yl P E o a w v none := by
  obtain ⟨u, e, r⟩ := eo_ok hF hx
  exact yl0 hfr r (fun w' => v_move ho e)
theorem y_assign {x : Operand} {v : V} (hF : FRel E F FL) (hfr : Fr n a FL) (ho : o.op = .assign x) (hx : eo F x = some v) : Yl P E o a w v none := by
  obtain ⟨u, e, r⟩ := eo_ok hF hx
  exact yl0 hfr r (fun w' => v_assign ho e)
theorem y_nil {x : Operand} {b off : Nat} (hF : FRel E F FL) (hfr : Fr n a FL) (ho : o.op = .nilCheck x) (hx : eo F x = some (.ptr b off)) : Yl P E o a w (.ptr b off) none := by
  obtain ⟨u, e, r⟩ := eo_ok hF hx
  obtain ⟨g, h1, rfl⟩ := r
  exact yl0 hfr ⟨g, h1, rfl⟩ (fun w' => v_nil ho e)
theorem y_nilF {x : Operand} {f : Nat} {p q : List V} (hF : FRel E F FL) (hfr : Fr n a FL) (ho : o.op = .nilCheck x) (hx : eo F x = some (.fn f p q)) : Yl P E o a w (.fn f p q) none := by
  obtain ⟨u, e, r⟩ := eo_ok hF hx
  obtain ⟨us, vs, h1, h2, rfl⟩ := r
  exact yl0 hfr ⟨us, vs, h1, h2, rfl⟩ (fun w' => v_nilF ho e)
theorem y_nilI {x : Operand} {t : Nat} {v : V} (hF : FRel E F FL) (hfr : Fr n a FL) (ho : o.op = .nilCheck x) (hx : eo F x = some (.ifc t v)) : Yl P E o a w (.ifc t v) none := by
  obtain ⟨u, e, r⟩ := eo_ok hF hx
  obtain ⟨z, h1, rfl⟩ := r
  refine yl0 (u := .iface t z) hfr ⟨z, h1, rfl⟩ (fun w' a' w'' hf hs => ?_)
  simp [execOp, ho, hf.ev e]
theorem y_pick {x y z : Operand} {b : Bool} {u v : V} (hF : FRel E F FL) (hfr : Fr n a FL) (ho : o.op = .pick z x y) (hz : eo F z = some (.bool (.bl b))) (hx : eo F x = some u) (hy : eo F y = some v) : Yl P E o a w (bsel b u v) none := by
  obtain ⟨u1, e1, r1⟩ := eo_ok hF hz
  obtain ⟨u2, e2, r2⟩ := eo_ok hF hx
  obtain ⟨u3, e3, r3⟩ := eo_ok hF hy
  rw [show u1 = .bool b from r1] at e1
  refine yl0 (u := if b then u2 else u3) hfr ?_ (fun w' => v_pick ho e1 e2 e3)
  cases b
  · exact r3
  · exact r2
theorem live_ {b : Nat} {ob : Ob} {g : Nat} (hw : Wr w0 E H.get w) (hb : H.get b = some ob) (hg : E.ν b = some g) : ∃ us cur, VRs E ob.cells us ∧ w.heap[g]? = some (.cells cur ob.e (0, 0)) ∧ cur.toList.take us.length = us := by
  obtain ⟨g', obj, h1, h2, h3⟩ := hw.lr b ob hb
  rw [hg] at h1
  injection h1 with h1
  subst h1
  obtain ⟨us, cur, h4, h5, h6⟩ := h3.cells_
  subst h5
  exact ⟨us, cur, h4, h2, h6⟩
theorem take_at {cur : Array Value} {us : List Value} (h : cur.toList.take us.length = us) {j : Nat} {u : Value} (hu : us[j]? = some u) : cur[j]? = some u := by
  rw [← h, List.getElem?_take] at hu
  split at hu
  · simpa using hu
  · cases hu
theorem take_part {cur : Array Value} {us : List Value} (h : cur.toList.take us.length = us) {off m : Nat} (hm : off + m ≤ us.length) : (cur.toList.drop off).take m = (us.drop off).take m := by
  conv => rhs; rw [← h]
  rw [List.drop_take, List.take_take, Nat.min_eq_left (by omega)]
theorem y_load {t : TypeId} {x : Operand} {b off : Nat} {ob : Ob} {v : V} (hF : FRel E F FL) (hfr : Fr n a FL) (hw : Wr w0 E H.get w) (ho : o.op = .load t x) (hx : eo F x = some (.ptr b off)) (hb : H.get b = some ob) (ht : agv P t = some false) (hv : nth ob.cells off = some v) : Yl P E o a w v (some b) := by
  obtain ⟨u, e, g, hg, rfl⟩ := eo_ok hF hx
  obtain ⟨us, cur, h1, h2, h3⟩ := live_ hw hb hg
  obtain ⟨d, hd, hn⟩ := agv_ok ht
  rw [nth_eq] at hv
  obtain ⟨u, hu, hr⟩ := h1.at_ hv
  exact yl1 hfr hr hg h2 (fun w' => v_ld 0 ho hd hn e rfl (take_at h3 hu))
theorem y_loadA {t : TypeId} {x : Operand} {b off m : Nat} {ob : Ob} {cs : List V} (hF : FRel E F FL) (hfr : Fr n a FL) (hw : Wr w0 E H.get w) (ho : o.op = .load t x) (hx : eo F x = some (.ptr b off)) (hb : H.get b = some ob) (ht : agv P t = some true) (hm : szv P t = some m) (hv : prt ob.cells off m = some cs) : Yl P E o a w (.agg cs) (some b) := by
  obtain ⟨u, e, g, hg, rfl⟩ := eo_ok hF hx
  obtain ⟨us, cur, h1, h2, h3⟩ := live_ hw hb hg
  obtain ⟨d, hd, hn⟩ := agv_ok ht
  obtain ⟨h4, rfl, h5⟩ := prt_ok hv h1
  rw [← h1.len] at h4
  refine yl1 hfr ⟨_, h5, rfl⟩ hg h2 (fun w' => v_ldA _ 0 ho hd hn (szv_ok hm) e rfl ?_ (take_part h3 h4))
  rw [List.length_take, List.length_drop]; omega
theorem y_fa {s : TypeId} {x : Operand} {f b off m : Nat} {fd : Field} (hF : FRel E F FL) (hfr : Fr n a FL) (ho : o.op = .fieldAddr s x f) (hx : eo F x = some (.ptr b off)) (hf : fdv P s f = some fd) (hm : szv P fd.type = some (Nat.succ m)) : Yl P E o a w (.ptr b (Nat.add off fd.offset)) none := by
  obtain ⟨u, e, g, hg, rfl⟩ := eo_ok hF hx
  obtain ⟨fs, h1, h2⟩ := fdv_ok hf
  exact yl0 hfr ⟨g, hg, rfl⟩ (fun w' => v_fa ho h1 h2 (szv_ok hm) e)
theorem y_fld {s : TypeId} {x : Operand} {f : Nat} {cs : List V} {fd : Field} {v : V} (hF : FRel E F FL) (hfr : Fr n a FL) (ho : o.op = .field s x f) (hx : eo F x = some (.agg cs)) (hf : fdv P s f = some fd) (ht : agv P fd.type = some false) (hv : nth cs fd.offset = some v) : Yl P E o a w v none := by
  obtain ⟨u, e, us, h0, rfl⟩ := eo_ok hF hx
  obtain ⟨fs, h1, h2⟩ := fdv_ok hf
  obtain ⟨d, hd, hn⟩ := agv_ok ht
  rw [nth_eq] at hv
  obtain ⟨u, hu, hr⟩ := h0.at_ hv
  exact yl0 hfr hr (fun w' => v_fld ho h1 h2 hd hn e (by simpa using hu))
theorem y_fldA {s : TypeId} {x : Operand} {f m : Nat} {cs ds : List V} {fd : Field} (hF : FRel E F FL) (hfr : Fr n a FL) (ho : o.op = .field s x f) (hx : eo F x = some (.agg cs)) (hf : fdv P s f = some fd) (ht : agv P fd.type = some true) (hm : szv P fd.type = some m) (hv : prt cs fd.offset m = some ds) : Yl P E o a w (.agg ds) none := by
  obtain ⟨u, e, us, h0, rfl⟩ := eo_ok hF hx
  obtain ⟨fs, h1, h2⟩ := fdv_ok hf
  obtain ⟨d, hd, hn⟩ := agv_ok ht
  obtain ⟨h4, rfl, h5⟩ := prt_ok hv h0
  refine yl0 (u := .agg ((us.drop fd.offset).take m).toArray) hfr ⟨_, h5, rfl⟩ (fun w' => v_fldA _ ho h1 h2 hd hn (szv_ok hm) e ?_)
  apply Array.toList_inj.1
  simp [List.drop_take, Nat.add_sub_cancel_left]
theorem y_ia {t e : TypeId} {x y : Operand} {b off len m k : Nat} {cap : Cap} {kd : IntKind} (hF : FRel E F FL) (hfr : Fr n a FL) (ho : o.op = .indexAddr t x y) (hx : eo F x = some (.sl b off len cap)) (hy : eo F y = some (.int kd (.lit (.ofNat k)))) (ht : elv P t = some e) (hk : Nat.blt k len = true) (hm : szv P e = some m) : Yl P E o a w (.ptr b (Nat.add off (Nat.mul k m))) none := by
  obtain ⟨u, e1, g, cp, hg, hc, hl, rfl⟩ := eo_ok hF hx
  obtain ⟨u, e2, r2⟩ := eo_ok hF hy
  rw [show u = .int kd (.ofNat k) from r2] at e2
  have hk' : k < len := Nat.le_of_ble_eq_true hk
  refine yl0 (u := .pointer (some ((⟨g, off, none⟩ : Addr).add ((Int.ofNat k).toNat * m)))) hfr ⟨g, hg, ?_⟩ (fun w' => v_ia ho (elv_ok ht) (szv_ok hm) e1 e2 (Int.natCast_nonneg k) (by exact Int.ofNat_lt.2 hk'))
  show _ = Value.pointer (some ⟨g, off + k * m, none⟩)
  unfold Addr.add
  split
  · rename_i h0
    rw [show k * m = 0 from h0]; rfl
  · rfl
theorem y_iaA {t e : TypeId} {x y : Operand} {b off len m k : Nat} {kd : IntKind} (hF : FRel E F FL) (hfr : Fr n a FL) (ho : o.op = .indexAddr t x y) (hx : eo F x = some (.ptr b off)) (hy : eo F y = some (.int kd (.lit (.ofNat k)))) (ht : P.underlying t = some (.array len e)) (hk : Nat.blt k len = true) (hm : szv P e = some m) : Yl P E o a w (.ptr b (Nat.add off (Nat.mul k m))) none := by
  obtain ⟨u, e1, g, hg, rfl⟩ := eo_ok hF hx
  obtain ⟨u, e2, r2⟩ := eo_ok hF hy
  rw [show u = .int kd (.ofNat k) from r2] at e2
  have hk' : k < len := Nat.le_of_ble_eq_true hk
  refine yl0 (u := .pointer (some ((⟨g, off, none⟩ : Addr).add ((Int.ofNat k).toNat * m)))) hfr ⟨g, hg, ?_⟩ (fun w' => v_iaA ho ht (szv_ok hm) e1 e2 (Int.natCast_nonneg k) (by exact Int.ofNat_lt.2 hk'))
  show _ = Value.pointer (some ⟨g, off + k * m, none⟩)
  unfold Addr.add
  split
  · rename_i h0
    rw [show k * m = 0 from h0]; rfl
  · rfl
theorem y_ext {x : Operand} {j : Nat} {vs : List V} {v : V} (hF : FRel E F FL) (hfr : Fr n a FL) (ho : o.op = .extract x j) (hx : eo F x = some (.tup vs)) (hv : nth vs j = some v) : Yl P E o a w v none := by
  obtain ⟨u, e, us, h0, rfl⟩ := eo_ok hF hx
  rw [nth_eq] at hv
  obtain ⟨u, hu, hr⟩ := h0.at_ hv
  exact yl0 hfr hr (fun w' => v_ext ho e (by simpa using hu))
theorem y_mf {f : FuncId} {fs cs : Array Operand} {us vs : List V} (hF : FRel E F FL) (hfr : Fr n a FL) (ho : o.op = .makeFunc (.func f) fs cs) (h1 : eos F fs.toList = some us) (h2 : eos F cs.toList = some vs) : Yl P E o a w (.fn f us vs) none := by
  obtain ⟨u1, e1, r1⟩ := eos_ok hF h1
  obtain ⟨u2, e2, r2⟩ := eos_ok hF h2
  exact yl0 hfr ⟨u1, u2, r1, r2, rfl⟩ (fun w' => v_mf ho e1 e2)
theorem y_not {t : TypeId} {x : Operand} {b : X} (hF : FRel E F FL) (hfr : Fr n a FL) (ho : o.op = .unOp .not t x) (hx : eo F x = some (.bool b)) : Yl P E o a w (.bool (X.not b)) none := by
  obtain ⟨u, e, r⟩ := eo_ok hF hx
  rw [show u = .bool _ from r] at e
  exact yl0 (u := .bool !(b.den E.ρ).b) hfr (by show _ = Value.bool _; rw [X.den_not]) (fun w' => v_not ho e)
theorem y_neg {t : TypeId} {x : Operand} {k k' : IntKind} {m : X} (hF : FRel E F FL) (hfr : Fr n a FL) (ho : o.op = .unOp .neg t x) (hx : eo F x = some (.int k m)) : Yl P E o a w (.int k (X.wr k (X.neg m))) none := by
  obtain ⟨u, e, r⟩ := eo_ok hF hx
  rw [show u = .int k _ from r] at e
  refine yl0 (u := .int k (k.wrap (-(m.den E.ρ).i))) hfr (by show _ = Value.int _ _; rw [X.den_wr, X.den_neg]) (fun w' a' w'' hf hs => ?_)
  simp [execOp, ho, hf.ev e, Op.unary, Op.intArith]
theorem y_conv {t u : TypeId} {x : Operand} {k k' : IntKind} {m : X} {d : TypeDesc} (hF : FRel E F FL) (hfr : Fr n a FL) (ho : o.op = .convert t u x) (hx : eo F x = some (.int k' m)) (hu : ikv P u = some k) (ht : P.underlying t = some d) : Yl P E o a w (.int k (X.wr k m)) none := by
  obtain ⟨v, e, r⟩ := eo_ok hF hx
  rw [show v = .int k' _ from r] at e
  exact yl0 (u := .int k (k.wrap (m.den E.ρ).i)) hfr (by show _ = Value.int _ _; rw [X.den_wr]) (fun w' => v_conv ho ht (ikv_ok hu) e)
theorem y_mi {t : TypeId} {x : Operand} {v : V} (hF : FRel E F FL) (hfr : Fr n a FL) (ho : o.op = .makeInterface t x) (hx : eo F x = some v) (ht : isIf P t = some false) : Yl P E o a w (.ifc t v) none := by
  obtain ⟨u, e, r⟩ := eo_ok hF hx
  refine yl0 (u := .iface t u) hfr ⟨u, r, rfl⟩ (fun w' a' w'' hf hs => ?_)
  unfold isIf at ht
  cases hd : P.underlying t with
  | none => rw [hd] at ht; cases ht
  | some d =>
    rw [hd] at ht
    simp only [execOp, ho, hf.ev e, Instr.makeInterface, Sem.run_bind, Sem.run_pure, Result.andThen_ok, run_underlying hd]
    cases d <;> first | (cases ht; done) | simp
end
end Go.Run
