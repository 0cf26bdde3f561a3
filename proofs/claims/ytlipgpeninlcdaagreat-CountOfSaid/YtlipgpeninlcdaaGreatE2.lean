/-
The walk's own words: what single operations do.
-/
import Derived.Test.YtlipgpeninlcdaaGreatE1
import Derived.Laws.EntriesVeiled
namespace Go.Eng
open Go.RowKit
set_option linter.unusedVariables false
set_option linter.unusedSimpArgs false
section
variable {P : Program} {n : Sz} {w0 : World} {I : Ix} {F : FL} {L : HL} {o : Oper}
theorem v_move {x : Operand} {v : Value} (ho : o.op = .move x) (hx : ev F x = some v) : OpV P n w0 I o F L v := by
  intro a w hf hs
  simp [execOp, ho, hf.ev hx]
theorem v_assign {x : Operand} {v : Value} (ho : o.op = .assign x) (hx : ev F x = some v) : OpV P n w0 I o F L v := by
  intro a w hf hs
  simp [execOp, ho, hf.ev hx]
theorem v_pick {c x y : Operand} {b : Bool} {u v : Value} (ho : o.op = .pick c x y) (hc : ev F c = some (.bool b)) (hx : ev F x = some u) (hy : ev F y = some v) : OpV P n w0 I o F L (if b then u else v) := by
  intro a w hf hs
  simp [execOp, ho, hf.ev hc, hf.ev hx, hf.ev hy, asBool]
def notAgg : TypeDesc → Bool
  | .struct _ | .array _ _ => false
  | _ => true
theorem run_isAgg0 {t : TypeId} {d : TypeDesc} (h : P.underlying t = some d) (hd : notAgg d = true) (w : World) : (isAgg t).run P w = .ok false w := by
  unfold isAgg
  rw [Sem.run_bind, run_underlying h]
  cases d <;> first | (simp [notAgg] at hd; done) | simp
theorem run_isAgg1 {t : TypeId} {d : TypeDesc} (h : P.underlying t = some d) (hd : notAgg d = false) (w : World) : (isAgg t).run P w = .ok true w := by
  unfold isAgg
  rw [Sem.run_bind, run_underlying h]
  cases d <;> first | (simp [notAgg] at hd; done) | simp
theorem run_load {w : World} {a : Addr} {v : Value} (h : w.cell? a = some v) : (load a).run P w = .ok v w := by
  simp [load, Sem.run, h]
/-- A load of one cell. -/
theorem v_ld {t : TypeId} {x : Operand} {d : TypeDesc} {b off : Nat} {cs : Array Value} {e : TypeId} {fz : Nat × Nat} {v : Value} (i : Nat) (ho : o.op = .load t x) (ht : P.underlying t = some d) (hd : notAgg d = true) (hx : ev F x = some (.pointer (some ⟨b, off, none⟩)))
    (hL : L[i]? = some (.b b (.cells cs e fz))) (hc : cs[off]? = some v) : OpV P n w0 I o F L v := by
  intro a w hf hs
  have h1 : w.cell? ⟨b, off, none⟩ = some v := (hs.cell hL off).trans hc
  simp only [execOp, ho, hf.ev hx, Instr.loadAt, Instr.sureAddr, loadVar, Sem.run_bind, Sem.run_pure, Result.andThen_ok, run_isAgg0 ht hd, if_false, Bool.false_eq_true, run_load h1]
/-- A load of one cell of memory that came in. -/
theorem v_ldx {t : TypeId} {x : Operand} {d : TypeDesc} {ad : Addr} {v : Value} (ho : o.op = .load t x) (ht : P.underlying t = some d) (hd : notAgg d = true) (hx : ev F x = some (.pointer (some ad)))
    (hc : w0.cell? ad = some v) (hI : ad.block ∉ I.own) : OpV P n w0 I o F L v := by
  intro a w hf hs
  have h1 : w.cell? ad = some v := hs.ext hc hI
  simp only [execOp, ho, hf.ev hx, Instr.loadAt, Instr.sureAddr, loadVar, Sem.run_bind, Sem.run_pure, Result.andThen_ok, run_isAgg0 ht hd, if_false, Bool.false_eq_true, run_load h1]
theorem run_size {t : TypeId} {m : Nat} (h : (P.info? t).map (·.size) = some m) (w : World) : (sizeOf t).run P w = .ok m w := by
  obtain ⟨i, hi, hm⟩ := Option.map_eq_some_iff.1 h
  unfold sizeOf typeInfo
  simp [program, Sem.run, hi, hm]
theorem run_cells {w : World} {b off : Nat} {vs : List Value} (h : ∀ j v, vs[j]? = some v → w.cell? ⟨b, off + j, none⟩ = some v) : (loadCells ⟨b, off, none⟩ vs.length).run P w = .ok vs.toArray w := by
  refine run_loadCells_list w _ vs (fun j v hv => ?_)
  have := h j v hv
  unfold Addr.add
  split
  · rename_i h0; subst h0; simpa using this
  · exact this
/-- A load of a struct. -/
theorem v_ldA {t : TypeId} {x : Operand} {d : TypeDesc} {b off m : Nat} {cs : Array Value} {e : TypeId} {fz : Nat × Nat} (vs : List Value) (i : Nat) (ho : o.op = .load t x) (ht : P.underlying t = some d) (hd : notAgg d = false) (hm : (P.info? t).map (·.size) = some m) (hx : ev F x = some (.pointer (some ⟨b, off, none⟩)))
    (hL : L[i]? = some (.b b (.cells cs e fz))) (hl : vs.length = m) (hc : (cs.toList.drop off).take m = vs) : OpV P n w0 I o F L (.agg vs.toArray) := by
  intro a w hf hs
  have h1 : ∀ j v, vs[j]? = some v → w.cell? ⟨b, off + j, none⟩ = some v := by
    intro j v hv
    rw [hs.cell hL]
    rw [← hc, List.getElem?_take] at hv
    split at hv
    · rw [List.getElem?_drop] at hv
      simpa using hv
    · cases hv
  have h2 := run_cells (P := P) (w := w) h1
  rw [hl] at h2
  simp only [execOp, ho, hf.ev hx, Instr.loadAt, Instr.sureAddr, loadVar, Sem.run_bind, Sem.run_pure, Result.andThen_ok, run_isAgg1 ht hd, if_true, run_size hm, h2]
/-- A load of a struct of memory that came in. -/
theorem v_ldAx {t : TypeId} {x : Operand} {d : TypeDesc} {ad : Addr} {m : Nat} (vs : List Value) (ho : o.op = .load t x) (ht : P.underlying t = some d) (hd : notAgg d = false) (hm : (P.info? t).map (·.size) = some m) (hx : ev F x = some (.pointer (some ad)))
    (hl : vs.length = m) (hc : ∀ j v, vs[j]? = some v → w0.cell? (ad.add j) = some v) (hI : ad.block ∉ I.own) : OpV P n w0 I o F L (.agg vs.toArray) := by
  intro a w hf hs
  have hb : ∀ j, (ad.add j).block = ad.block := fun j => by unfold Addr.add; split <;> rfl
  have h2 := run_loadCells_list (P := P) w ad vs (fun j v hv => hs.ext (hc j v hv) (by rw [hb]; exact hI))
  rw [hl] at h2
  simp only [execOp, ho, hf.ev hx, Instr.loadAt, Instr.sureAddr, loadVar, Sem.run_bind, Sem.run_pure, Result.andThen_ok, run_isAgg1 ht hd, if_true, run_size hm, h2]
/-- A field's address. -/
theorem v_fa {s : TypeId} {x : Operand} {f : Nat} {fs : Array Field} {fd : Field} {b off m : Nat} (ho : o.op = .fieldAddr s x f) (hs' : P.underlying s = some (.struct fs)) (hf' : fs[f]? = some fd) (hm : (P.info? fd.type).map (·.size) = some (m + 1)) (hx : ev F x = some (.pointer (some ⟨b, off, none⟩))) : OpV P n w0 I o F L (.pointer (some ⟨b, off + fd.offset, none⟩)) := by
  intro a w hf hs
  simp only [execOp, ho, hf.ev hx, Instr.fieldAt, Instr.sureAddr, Sem.run_bind, Sem.run_pure, Result.andThen_ok, run_underlying hs', hf', fieldPlace, run_size hm, Nat.add_eq_zero_iff, Nat.one_ne_zero, and_false, if_false]
  congr 4
  unfold Addr.add
  split
  · rename_i h0; rw [h0]; rfl
  · rfl
theorem v_nil {x : Operand} {ad : Addr} (ho : o.op = .nilCheck x) (hx : ev F x = some (.pointer (some ad))) : OpV P n w0 I o F L (.pointer (some ad)) := by
  intro a w hf hs
  simp [execOp, ho, hf.ev hx]
theorem v_nilF {x : Operand} {f : FuncId} {fst cap : Array Value} (ho : o.op = .nilCheck x) (hx : ev F x = some (.func (.func f) fst cap)) : OpV P n w0 I o F L (.func (.func f) fst cap) := by
  intro a w hf hs
  simp [execOp, ho, hf.ev hx]
/-- An operation on values alone. -/
theorem v_any {v : Value} (hs : ∀ cs b, o.op ≠ .select cs b) (ρ : Operand → Value) (hρ : ∀ x ∈ o.op.operands, ∃ u, ev F x = some u ∧ ρ x = u) (h : ∀ w, (execOp ρ o).run P w = .ok (.value v) w) : OpV P n w0 I o F L v := by
  intro a w hf hw
  rw [execOp_congr (ρ' := ρ) o hs (fun x hx => by obtain ⟨u, h1, h2⟩ := hρ x hx; rw [hf.ev h1, h2])]
  exact h w
theorem v_arith {op : BinOp} {t t' : TypeId} {x y : Operand} {k : IntKind} {m q : Int} {v : Value} (ho : o.op = .binOp op t x y t') (hx : ev F x = some (.int k m)) (hy : ev F y = some (.int k q))
    (h : (match op with | .add => some (Value.int k (k.wrap (m + q))) | .sub => some (Value.int k (k.wrap (m - q))) | .mul => some (Value.int k (k.wrap (m * q))) | .eql => some (.bool (m == q)) | .neq => some (.bool (m != q)) | .lss => some (.bool (decide (m < q))) | .leq => some (.bool (decide (m ≤ q))) | .gtr => some (.bool (decide (m > q))) | .geq => some (.bool (decide (m ≥ q))) | _ => none) = some v) : OpV P n w0 I o F L v := by
  intro a w hf hs
  cases op <;> simp only [reduceCtorEq] at h <;> have h' := Option.some.inj h <;> subst h' <;>
    simp [execOp, ho, hf.ev hx, hf.ev hy, eqGuard, binOp, Op.intArith, Op.intCmp]
theorem v_div {t t' : TypeId} {x y : Operand} {k : IntKind} {m q : Int} (ho : o.op = .binOp .quo t x y t') (hx : ev F x = some (.int k m)) (hy : ev F y = some (.int k q)) (hq : q ≠ 0) : OpV P n w0 I o F L (.int k (k.wrap (m.tdiv q))) := by
  intro a w hf hs
  simp [execOp, ho, hf.ev hx, hf.ev hy, eqGuard, binOp, Op.intDiv, hq]
theorem v_rem {t t' : TypeId} {x y : Operand} {k : IntKind} {m q : Int} (ho : o.op = .binOp .rem t x y t') (hx : ev F x = some (.int k m)) (hy : ev F y = some (.int k q)) (hq : q ≠ 0) : OpV P n w0 I o F L (.int k (m.tmod q)) := by
  intro a w hf hs
  simp [execOp, ho, hf.ev hx, hf.ev hy, eqGuard, binOp, Op.intDiv, hq]
theorem v_bits {op : BinOp} {t t' : TypeId} {x y : Operand} {k : IntKind} {m q : Int} {v : Value} (ho : o.op = .binOp op t x y t') (hx : ev F x = some (.int k m)) (hy : ev F y = some (.int k q))
    (h : (match op with | .and => some (Value.int k (k.wrap (BitVec.ofInt k.bits m &&& BitVec.ofInt k.bits q).toNat)) | .or => some (Value.int k (k.wrap (BitVec.ofInt k.bits m ||| BitVec.ofInt k.bits q).toNat)) | .xor => some (Value.int k (k.wrap (BitVec.ofInt k.bits m ^^^ BitVec.ofInt k.bits q).toNat)) | .andNot => some (Value.int k (k.wrap (BitVec.ofInt k.bits m &&& ~~~ BitVec.ofInt k.bits q).toNat)) | _ => none) = some v) : OpV P n w0 I o F L v := by
  intro a w hf hs
  cases op <;> simp only [reduceCtorEq] at h <;> have h' := Option.some.inj h <;> subst h' <;>
    simp [execOp, ho, hf.ev hx, hf.ev hy, eqGuard, binOp, Op.intBits]
theorem v_shl {t t' : TypeId} {x y : Operand} {k k' : IntKind} {m q : Int} (ho : o.op = .binOp .shl t x y t') (hx : ev F x = some (.int k m)) (hy : ev F y = some (.int k' q)) (hq : 0 ≤ q) : OpV P n w0 I o F L (.int k (k.wrap (m * 2 ^ (min q.toNat k.bits)))) := by
  intro a w hf hs
  have : ¬ q < 0 := by omega
  simp [execOp, ho, hf.ev hx, hf.ev hy, eqGuard, binOp, Op.shift, this]
theorem v_shr {t t' : TypeId} {x y : Operand} {k k' : IntKind} {m q : Int} (ho : o.op = .binOp .shr t x y t') (hx : ev F x = some (.int k m)) (hy : ev F y = some (.int k' q)) (hq : 0 ≤ q) : OpV P n w0 I o F L (.int k (m.fdiv (2 ^ (min q.toNat k.bits)))) := by
  intro a w hf hs
  have : ¬ q < 0 := by omega
  simp [execOp, ho, hf.ev hx, hf.ev hy, eqGuard, binOp, Op.shift, this]
theorem v_not {t : TypeId} {x : Operand} {b : Bool} (ho : o.op = .unOp .not t x) (hx : ev F x = some (.bool b)) : OpV P n w0 I o F L (.bool !b) := by
  intro a w hf hs
  simp [execOp, ho, hf.ev hx, Op.unary]
/-- A conversion between whole numbers. -/
theorem v_conv {t u : TypeId} {x : Operand} {d : TypeDesc} {k k' : IntKind} {m : Int} (ho : o.op = .convert t u x) (ht : P.underlying t = some d) (hu : P.underlying u = some (.int k)) (hx : ev F x = some (.int k' m)) : OpV P n w0 I o F L (.int k (k.wrap m)) := by
  intro a w hf hs
  simp [execOp, ho, hf.ev hx, convert, run_underlying ht, run_underlying hu, Conv.intToInt]
theorem v_ext {x : Operand} {j : Nat} {vs : Array Value} {v : Value} (ho : o.op = .extract x j) (hx : ev F x = some (.tuple vs)) (hv : vs[j]? = some v) : OpV P n w0 I o F L v := by
  intro a w hf hs
  simp [execOp, ho, hf.ev hx, Instr.extract, hv]
theorem v_mf {fn : Fn} {fst cap : Array Operand} {us vs : List Value} (ho : o.op = .makeFunc fn fst cap) (h1 : evs F fst.toList = some us) (h2 : evs F cap.toList = some vs) : OpV P n w0 I o F L (.func fn us.toArray vs.toArray) := by
  intro a w hf hs
  have e1 : fst.map a.eval = us.toArray := Array.toList_inj.1 (by simpa using hf.evs h1)
  have e2 : cap.map a.eval = vs.toArray := Array.toList_inj.1 (by simpa using hf.evs h2)
  simp [execOp, ho, Instr.makeFunc, e1, e2]
/-- An element's address, of a slice. -/
theorem v_ia {t e : TypeId} {x y : Operand} {ad : Addr} {len cap m : Nat} {k : IntKind} {j : Int} (ho : o.op = .indexAddr t x y) (ht : P.underlying t = some (.slice e)) (hm : (P.info? e).map (·.size) = some m) (hx : ev F x = some (.slice (some ad) len cap)) (hy : ev F y = some (.int k j)) (h0 : 0 ≤ j) (h1 : j < len) : OpV P n w0 I o F L (.pointer (some (ad.add (j.toNat * m)))) := by
  intro a w hf hs
  simp [execOp, ho, hf.ev hx, hf.ev hy, Instr.indexAt, asIntOf, run_underlying ht, h0, h1, run_size hm]
/-- An element's address, of an array in memory. -/
theorem v_iaA {t e : TypeId} {x y : Operand} {ad : Addr} {len m : Nat} {k : IntKind} {j : Int} (ho : o.op = .indexAddr t x y) (ht : P.underlying t = some (.array len e)) (hm : (P.info? e).map (·.size) = some m) (hx : ev F x = some (.pointer (some ad))) (hy : ev F y = some (.int k j)) (h0 : 0 ≤ j) (h1 : j < len) : OpV P n w0 I o F L (.pointer (some (ad.add (j.toNat * m)))) := by
  intro a w hf hs
  simp [execOp, ho, hf.ev hx, hf.ev hy, Instr.indexAt, asIntOf, run_underlying ht, Instr.sureAddr, h0, h1, run_size hm]
theorem v_fld {t : TypeId} {x : Operand} {f : Nat} {fs : Array Field} {fd : Field} {d : TypeDesc} {cs : Array Value} {v : Value} (ho : o.op = .field t x f) (ht : P.underlying t = some (.struct fs)) (hf' : fs[f]? = some fd) (hu : P.underlying fd.type = some d) (hd : notAgg d = true) (hx : ev F x = some (.agg cs)) (hv : cs[fd.offset]? = some v) : OpV P n w0 I o F L v := by
  intro a w hf hs
  simp [execOp, ho, hf.ev hx, Instr.field, asAgg, run_underlying ht, hf', part, run_isAgg0 hu hd, hv]
theorem v_fldA {t : TypeId} {x : Operand} {f : Nat} {fs : Array Field} {fd : Field} {d : TypeDesc} {cs : Array Value} {m : Nat} (vs : Array Value) (ho : o.op = .field t x f) (ht : P.underlying t = some (.struct fs)) (hf' : fs[f]? = some fd) (hu : P.underlying fd.type = some d) (hd : notAgg d = false) (hm : (P.info? fd.type).map (·.size) = some m) (hx : ev F x = some (.agg cs)) (hv : cs.extract fd.offset (fd.offset + m) = vs) : OpV P n w0 I o F L (.agg vs) := by
  intro a w hf hs
  simp [execOp, ho, hf.ev hx, Instr.field, asAgg, run_underlying ht, hf', part, run_isAgg1 hu hd, run_size hm, hv]
/-- A struct put together. -/
theorem v_build {t : TypeId} {ps : Array (Nat × Operand)} {fs : Array Field} {z : Value} {places : Array (Nat × Nat)} {us : List Value} (cs : Array Value) (ho : o.op = .build t ps) (hz : (P.info? t).bind (·.zero) = some z) (ht : P.underlying t = some (.struct fs)) (hp : fs.toList.mapM (fun f => (P.info? f.type).map fun i => (f.offset, i.size)) = some places.toList)
    (hu : evs F (ps.toList.map (·.2)) = some us) (hc : Instr.fill (places[·]?) z.cells ((ps.toList.map (·.1)).zip us) = some cs) : OpV P n w0 I o F L (.agg cs) := by
  intro a w hf hs
  obtain ⟨i, hi, hzz⟩ := Option.bind_eq_some_iff.1 hz
  have e1 : (ps.map fun (i, x) => (i, a.eval x)).toList = (ps.toList.map (·.1)).zip us := by
    rw [← hf.evs hu]
    simp [List.zip_map', Function.comp_def]
  have key : ∀ (l : List Field) (q : List (Nat × Nat)), l.mapM (fun f => (P.info? f.type).map fun i => (f.offset, i.size)) = some q → (l.mapM (m := Sem) fun f => do pure (f.offset, ← sizeOf f.type)).run P w = .ok q w := by
    intro l
    induction l with
    | nil => intro q hq; simp at hq; subst hq; simp
    | cons f r ih =>
      intro q hq
      simp only [List.mapM_cons, Option.bind_eq_bind, Option.bind_eq_some_iff] at hq
      obtain ⟨y, hy, q', hq', e⟩ := hq
      obtain ⟨inf, hinf, rfl⟩ := Option.map_eq_some_iff.1 hy
      have := Option.some.inj e
      subst this
      simp only [List.mapM_cons, Sem.run_bind, Sem.run_pure, Result.andThen_ok, ih q' hq', run_size (show (P.info? f.type).map (·.size) = some inf.size by rw [hinf]; rfl)]
  have k := key fs.toList places.toList hp
  have hzv : (zeroValue t).run P w = .ok z w := by
    unfold zeroValue typeInfo
    simp [program, Sem.run, hi, hzz]
  obtain ⟨fl⟩ := fs
  obtain ⟨pl⟩ := places
  simp only [execOp, ho, Instr.build, Sem.run_bind, Sem.run_pure, Result.andThen_ok, hzv, run_underlying ht, List.mapM_toArray, Sem.run_map, k, e1]
  have hc' : Instr.fill (fun x => pl[x]?) z.cells ((ps.toList.map (·.1)).zip us) = some cs := by simpa using hc
  simp [hc']
/-! ### what turns memory -/
theorem e_alloc {t : TypeId} {z : Value} {d : Nat} (ho : o.op = .alloc t) (hd : o.dst = some d) (hn : Nat.blt d n.n = true) (hz : (P.info? t).bind (·.zero) = some z) :
    OpE P n w0 I o F L (fun X => ∀ b, X ((d, .pointer (some ⟨b, 0, none⟩)) :: F) (.b b (.cells z.cells t (0, 0)) :: L)) := by
  intro X hX a w hf ht K Q np hK
  obtain ⟨i, hi, hzz⟩ := Option.bind_eq_some_iff.1 hz
  have hr : (execOp a.eval o).run P w = .ok (.value (.pointer (some ⟨w.heap.size, 0, none⟩))) { w with heap := w.heap.push (.cells z.cells t) } := by
    simp [execOp, ho, Instr.alloc, zeroValue, typeInfo, program, Sem.run, hi, hzz, newVar, newRow, newObj]
  unfold Oper.wp
  rw [hr, Oper.upon_value, hd]
  exact hK _ _ (hX w.heap.size) _ _ (hf.put (blt_lt hn) _) (ht.alloc _)
theorem e_box {t : TypeId} {x : Operand} {v : Value} {d : Nat} (ho : o.op = .box t x) (hd : o.dst = some d) (hn : Nat.blt d n.n = true) (hx : ev F x = some v) :
    OpE P n w0 I o F L (fun X => ∀ b, X ((d, .pointer (some ⟨b, 0, none⟩)) :: F) (.b b (.cells v.cells t (0, 0)) :: L)) := by
  intro X hX a w hf ht K Q np hK
  have hr : (execOp a.eval o).run P w = .ok (.value (.pointer (some ⟨w.heap.size, 0, none⟩))) { w with heap := w.heap.push (.cells v.cells t) } := by
    simp [execOp, ho, hf.ev hx, Instr.box, Sem.run, newVar, newRow, newObj]
  unfold Oper.wp
  rw [hr, Oper.upon_value, hd]
  exact hK _ _ (hX w.heap.size) _ _ (hf.put (blt_lt hn) _) (ht.alloc _)
def one : Value → Bool
  | .agg _ | .tuple _ => false
  | _ => true
/-- A store of one cell. -/
theorem e_st {t : TypeId} {x y : Operand} {b off : Nat} {cs : Array Value} {e : TypeId} {v : Value} (i : Nat) (ho : o.op = .store t x y) (hd : o.dst = none) (hm : (P.info? t).map (·.size) = some 1) (hx : ev F x = some (.pointer (some ⟨b, off, none⟩))) (hy : ev F y = some v) (hv : one v = true)
    (hL : L[i]? = some (.b b (.cells cs e (0, 0)))) (hc : off < cs.size) : OpE P n w0 I o F L (fun X => X F (L.set i (.b b (.cells (cs.setIfInBounds off v) e (0, 0))))) := by
  intro X hX a w hf ht K Q np hK
  have hcell : w.cell? ⟨b, off, none⟩ = some cs[off] := by rw [ht.toWS.cell hL]; simp [hc]
  have hfz : w.frozen? ⟨b, off, none⟩ = false := by simp [World.frozen?, ht.toWS.get hL]
  have hcv : v.cells = #[v] := by cases v <;> simp [one] at hv <;> rfl
  have hr : (execOp a.eval o).run P w = .ok .skip (w.setCell ⟨b, off, none⟩ v) := by
    simp only [execOp, ho, hf.ev hx, hf.ev hy, Instr.storeAt, Instr.sureAddr, storeVar, hcv, Sem.run_bind, Sem.run_pure, Result.andThen_ok, run_size hm]
    cases v <;> first | (simp [one] at hv; done) | simp [storeCells, store, Sem.run, Addr.add, hcell, hfz]
  unfold Oper.wp
  rw [hr, Oper.upon_skip, hd]
  exact hK _ _ hX _ _ hf (ht.setCell hL off v)
end
/-! ### rows of blocks, by their places -/
def pick (L : HL) : List Nat → Option HL
  | [] => some []
  | i :: r => match L[i]?, pick L r with
    | some p, some q => some (p :: q)
    | _, _ => none
theorem mem_pick {L : HL} : ∀ {idx : List Nat} {L' : HL}, pick L idx = some L' → ∀ p ∈ L', p ∈ L
  | [], L', h, p, hp => by simp [pick] at h; subst h; cases hp
  | i :: r, L', h, p, hp => by
    simp only [pick] at h
    cases h1 : L[i]? with
    | none => rw [h1] at h; cases h
    | some q => cases h2 : pick L r with
      | none => rw [h1, h2] at h; cases h
      | some q' =>
        rw [h1, h2] at h
        have := Option.some.inj h
        subst this
        rcases List.mem_cons.1 hp with rfl | hp
        · exact List.mem_of_getElem? h1
        · exact mem_pick h2 p hp
theorem pick_sub {L : HL} : ∀ {idx : List Nat} {L' : HL}, pick L idx = some L' → ∀ n ∈ ids L', ∃ i ∈ idx, ∃ o, L[i]? = some (.b n o)
  | [], L', h, n, hn => by simp [pick] at h; subst h; simp [ids] at hn
  | i :: r, L', h, n, hn => by
    simp only [pick] at h
    cases h1 : L[i]? with
    | none => rw [h1] at h; cases h
    | some q => cases h2 : pick L r with
      | none => rw [h1, h2] at h; cases h
      | some q' =>
        rw [h1, h2] at h
        have := Option.some.inj h
        subst this
        cases q with
        | b m o =>
          rw [ids_b] at hn
          rcases List.mem_cons.1 hn with rfl | hn
          · exact ⟨i, List.mem_cons_self, o, h1⟩
          · obtain ⟨j, hj, e⟩ := pick_sub h2 n hn
            exact ⟨j, List.mem_cons_of_mem _ hj, e⟩
        | f φ =>
          rw [ids_f] at hn
          obtain ⟨j, hj, e⟩ := pick_sub h2 n hn
          exact ⟨j, List.mem_cons_of_mem _ hj, e⟩
theorem nodup_idx {L : HL} (h : (ids L).Nodup) {i j n : Nat} {o u : Obj} (hi : L[i]? = some (.b n o)) (hj : L[j]? = some (.b n u)) : i = j := by
  induction L generalizing i j with
  | nil => cases hi
  | cons e r ih =>
    cases i with
    | zero =>
      cases j with
      | zero => rfl
      | succ j =>
        simp at hi hj
        subst hi
        rw [ids_b, List.nodup_cons] at h
        exact absurd (mem_ids.2 ⟨u, List.mem_of_getElem? hj⟩) h.1
    | succ i =>
      have hnr : (ids r).Nodup := by
        cases e with
        | b m q => rw [ids_b, List.nodup_cons] at h; exact h.2
        | f φ => rw [ids_f] at h; exact h
      cases j with
      | zero =>
        simp at hi hj
        subst hj
        rw [ids_b, List.nodup_cons] at h
        exact absurd (mem_ids.2 ⟨o, List.mem_of_getElem? hi⟩) h.1
      | succ j => exact congrArg (· + 1) (ih hnr (by simpa using hi) (by simpa using hj))
theorem pick_nodup {L : HL} (hn : (ids L).Nodup) : ∀ {idx : List Nat} {L' : HL}, pick L idx = some L' → idx.Nodup → (ids L').Nodup
  | [], L', h, _ => by simp [pick] at h; subst h; simp [ids]
  | i :: r, L', h, hi => by
    simp only [pick] at h
    cases h1 : L[i]? with
    | none => rw [h1] at h; cases h
    | some q => cases h2 : pick L r with
      | none => rw [h1, h2] at h; cases h
      | some q' =>
        rw [h1, h2] at h
        have := Option.some.inj h
        subst this
        rw [List.nodup_cons] at hi
        have ih := pick_nodup hn h2 hi.2
        cases q with
        | f φ => rw [ids_f]; exact ih
        | b m o =>
          rw [ids_b, List.nodup_cons]
          refine ⟨fun hm => ?_, ih⟩
          obtain ⟨j, hj, u, hju⟩ := pick_sub h2 m hm
          have := nodup_idx hn h1 hju
          subst this
          exact hi.1 hj
theorem pick_app {L : HL} : ∀ {a b : List Nat} {L1 L2 : HL}, pick L a = some L1 → pick L b = some L2 → pick L (a ++ b) = some (L1 ++ L2)
  | [], b, L1, L2, h1, h2 => by simp [pick] at h1; subst h1; simpa using h2
  | i :: r, b, L1, L2, h1, h2 => by
    simp only [pick] at h1
    cases e1 : L[i]? with
    | none => rw [e1] at h1; cases h1
    | some q => cases e2 : pick L r with
      | none => rw [e1, e2] at h1; cases h1
      | some q' =>
        rw [e1, e2] at h1
        have := Option.some.inj h1
        subst this
        simp only [List.cons_append, pick, e1, pick_app e2 h2]
section
variable {P : Program} {W : Code → (Exit → Act → World → Prop) → Act → World → Prop} {n : Sz} {w0 : World} {I : Ix} {F : FL} {L : HL} {o : Oper} {Q : Exit → Act → World → Prop}
theorem q_take {e : Exit} {L' : HL} (idx : List Nat) (h : pick L idx = some L') (hi : idx.Nodup) (k : QW P W n w0 I e Q F L') : QW P W n w0 I e Q F L :=
  q_pick (mem_pick h) (fun hn => pick_nodup hn h hi) k
theorem c_take {c : Code} {L' : HL} (idx : List Nat) (h : pick L idx = some L') (hi : idx.Nodup) (k : CW P W n w0 I c Q F L') : CW P W n w0 I c Q F L :=
  c_pick (mem_pick h) (fun hn => pick_nodup hn h hi) k
/-- A block that nobody turns again becomes a fact. -/
theorem tri_give {w : World} {L' : HL} {g : Nat} {o' : Obj} {φ : World → Prop} (ht : Tri w0 I w L) (idx : List Nat) (hp : pick L idx = some (.b g o' :: L')) (hi : idx.Nodup) (hI : g ∉ I.own) (hφ : ∀ w, w.heap[g]? = some o' → φ w) : Tri w0 I w (.f φ :: L') := by
  have h1 := (ht.pick (mem_pick hp) (pick_nodup ht.nodup hp hi)).give hI
  refine { toAgree := h1.toAgree, at_ := fun k u hk => h1.at_ k u ?_, own := fun k hk => h1.own k (by rw [ids_f] at hk ⊢; exact hk), nodup := (by have := h1.nodup; rw [ids_f] at this ⊢; exact this), facts := fun ψ hψ => ?_, hol := h1.hol }
  · rcases List.mem_cons.1 hk with h | h
    · cases h
    · exact List.mem_cons_of_mem _ h
  · rw [ids_f]
    rcases List.mem_cons.1 hψ with h | h
    · injection h with e
      subst e
      have := h1.facts _ List.mem_cons_self
      rw [ids_f] at this
      exact fun w' ha => hφ w' (this w' ha)
    · have := h1.facts ψ (List.mem_cons_of_mem _ h)
      rwa [ids_f] at this
theorem q_give {e : Exit} {L' : HL} {g : Nat} {o' : Obj} {φ : World → Prop} (idx : List Nat) (hp : pick L idx = some (.b g o' :: L')) (hi : idx.Nodup) (hI : g ∉ I.own) (hφ : ∀ w, w.heap[g]? = some o' → φ w) (k : QW P W n w0 I e Q F (.f φ :: L')) : QW P W n w0 I e Q F L :=
  fun fl np a w hf ht => k fl np a w hf (tri_give ht idx hp hi hI hφ)
theorem c_give {c : Code} {L' : HL} {g : Nat} {o' : Obj} {φ : World → Prop} (idx : List Nat) (hp : pick L idx = some (.b g o' :: L')) (hi : idx.Nodup) (hI : g ∉ I.own) (hφ : ∀ w, w.heap[g]? = some o' → φ w) (k : CW P W n w0 I c Q F (.f φ :: L')) : CW P W n w0 I c Q F L :=
  fun fl np a w hf ht => k fl np a w hf (tri_give ht idx hp hi hI hφ)
theorem q_know {e : Exit} {φ : World → Prop} (hφ : ∀ w, φ w) (k : QW P W n w0 I e Q F (.f φ :: L)) : QW P W n w0 I e Q F L :=
  fun fl np a w hf ht => k fl np a w hf (ht.know (fun w' _ => hφ w'))
/-- The end of a body: what it hands back, and the blocks. -/
theorem q_post {m : Nat} {fn : Func} {X : Value → HL → Prop} {rs : List ResultVar} {vs : List Value} (hr : fn.results = rs.toArray) (h : RVs F rs vs) (hX : X (packV vs) L) : QW P W ⟨m, []⟩ w0 I .ret (bodyPost P fn (Post X w0 I)) F L :=
  fun fl np a w hf ht => ⟨hf.defers, _, results_rvs hr h hf, _, _, rfl, hX, ht⟩
theorem q_post_n {m : Nat} {fn : Func} {X : Value → HL → Prop} {rs : List ResultVar} {vs : List Value} (hr : fn.results = rs.toArray) (h : RVs F rs vs) (hX : X (packV vs) L) : QW P W ⟨m, []⟩ w0 I .normal (bodyPost P fn (Post X w0 I)) F L :=
  fun fl np a w hf ht => ⟨hf.defers, _, results_rvs hr h hf, _, _, rfl, hX, ht⟩
/-- A struct handed back lies in memory. -/
theorem q_post_cell {m : Nat} {fn : Func} {X : Value → HL → Prop} {e : Exit} (hre : e = .ret ∨ e = .normal) {v : Value} (hr : ∀ a w, Fr ⟨m, []⟩ a F → WS w0 I w L → (results fn a.tmps).run P w = .ok v w) (hX : X v L) : QW P W ⟨m, []⟩ w0 I e (bodyPost P fn (Post X w0 I)) F L := by
  intro fl np a w hf ht
  rcases hre with rfl | rfl
  · exact ⟨hf.defers, _, hr a w hf ht.toWS, _, _, rfl, hX, ht⟩
  · exact ⟨hf.defers, _, hr a w hf ht.toWS, _, _, rfl, hX, ht⟩
theorem run_callFunc {g : FuncId} {fn : Func} (hf : P.funcs[g]? = some fn) (hb : fn.body.isNone = false) (hname : (fn.name == "runtime.NumGoroutine") = false) (vs : Array Value) (w : World) : (callFunc g vs).run P w = .ok (.enter g vs) w := by
  unfold callFunc
  have h1 : ¬ fn.name = "runtime.NumGoroutine" := by simpa using hname
  have h2 : ¬ fn.body = none := by intro e; rw [e] at hb; cases hb
  simp [program, Sem.run, hf, h1, h2]
/-- A call of a function, by its contract. -/
theorem e_call {c : Call} {x : Operand} {g : FuncId} {fn : Func} {fst cap : Array Value} {vs : List Value} {d : Nat} {L1 L2 : HL} {C : (Value → HL → Prop) → Prop} (idx rest : List Nat) (args : Array Value) (ho : o.op = .call c) (hc : c.callee = .value x) (hx : ev F x = some (.func (.func g) fst cap)) (hv : evs F c.args.toList = some vs) (hargs : fst ++ vs.toArray ++ cap = args)
    (hf : P.funcs[g]? = some fn) (hb : fn.body.isNone = false) (hname : (fn.name == "runtime.NumGoroutine") = false) (hd : o.dst = some d) (hn : Nat.blt d n.n = true) (h1 : pick L idx = some L1) (h2 : pick L rest = some L2) (hi : (idx ++ rest).Nodup)
    (hcon : ∀ w, Tri w0 I w L → Con P g args w (I.holes ++ ids L2) L1 C) : OpE P n w0 I o F L (fun X => C (fun v L1' => X ((d, v) :: F) (L1' ++ L2))) := by
  intro X hX a w hfr ht K Q np hK
  have e1 : c.args.map a.eval = vs.toArray := Array.toList_inj.1 (by simpa using hfr.evs hv)
  have hr : (execOp a.eval o).run P w = .ok (.enter g args) w := by
    simp only [execOp, ho, resolve, hc, e1, hfr.ev hx, Deferred.ofValue, Sem.run_bind, Sem.run_pure, Result.andThen_ok, invoke, hargs, run_callFunc hf hb hname]
  have h12 : ∀ p ∈ L1 ++ L2, p ∈ L := mem_pick (pick_app h1 h2)
  have hnd := pick_nodup ht.nodup (pick_app h1 h2) hi
  have h := hcon w ht (ht.here h12 hnd) _ hX
  unfold Oper.wp
  rw [hr, Oper.upon_enter]
  refine h.mono ?_
  rintro e w' ⟨v, L', rfl, hx', ht'⟩
  show K (a.put o.dst v) w'
  rw [hd]
  exact hK _ _ hx' _ _ (hfr.put (blt_lt hn) v) (ht.trans h12 hnd ht')
/-- A contract of the kit's own kind: nothing that was there is turned. -/
theorem e_callB {c : Call} {x : Operand} {g : FuncId} {fn : Func} {fst cap : Array Value} {vs : List Value} {d : Nat} {R : Value → World → Prop} (args : Array Value) (ho : o.op = .call c) (hc : c.callee = .value x) (hx : ev F x = some (.func (.func g) fst cap)) (hv : evs F c.args.toList = some vs) (hargs : fst ++ vs.toArray ++ cap = args)
    (hf : P.funcs[g]? = some fn) (hb : fn.body.isNone = false) (hname : (fn.name == "runtime.NumGoroutine") = false) (hd : o.dst = some d) (hn : Nat.blt d n.n = true)
    (hcon : ∀ w, Tri w0 I w L → Calls P g args w fun e w' => ∃ v, e = .returned v ∧ R v w' ∧ Below w.heap.size w w') : OpE P n w0 I o F L (fun X => ∀ v w1, R v w1 → X ((d, v) :: F) L) := by
  intro X hX a w hfr ht K Q np hK
  have e1 : c.args.map a.eval = vs.toArray := Array.toList_inj.1 (by simpa using hfr.evs hv)
  have hr : (execOp a.eval o).run P w = .ok (.enter g args) w := by
    simp only [execOp, ho, resolve, hc, e1, hfr.ev hx, Deferred.ofValue, Sem.run_bind, Sem.run_pure, Result.andThen_ok, invoke, hargs, run_callFunc hf hb hname]
  unfold Oper.wp
  rw [hr, Oper.upon_enter]
  refine (hcon w ht).mono ?_
  rintro e w' ⟨v, rfl, hx', hb'⟩
  show K (a.put o.dst v) w'
  rw [hd]
  exact hK _ _ (hX v w' hx') _ _ (hfr.put (blt_lt hn) v) (ht.of_below hb')
/-- A store of a struct. -/
theorem run_storeCells_w {b off : Nat} {e : TypeId} : ∀ (vs : List Value) (i : Nat) (cs : Array Value) (w : World), w.heap[b]? = some (.cells cs e (0, 0)) → off + i + vs.length ≤ cs.size → (∀ v ∈ vs, one v = true) →
    ∃ H cs', (storeCells ⟨b, off, none⟩ vs i).run P w = .ok () { w with heap := H } ∧ H.size = w.heap.size ∧ H[b]? = some (.cells cs' e (0, 0)) ∧ (∀ k, k ≠ b → H[k]? = w.heap[k]?) ∧ cs'.size = cs.size ∧ cs'.toList = cs.toList.take (off + i) ++ vs ++ cs.toList.drop (off + i + vs.length)
  | [], i, cs, w, hb, hl, hv => by
    refine ⟨w.heap, cs, by simp [storeCells], rfl, hb, fun _ _ => rfl, rfl, by simp⟩
  | v :: r, i, cs, w, hb, hl, hv => by
    have ho := hv v List.mem_cons_self
    simp only [List.length_cons] at hl
    have hadd : (⟨b, off, none⟩ : Addr).add i = ⟨b, off + i, none⟩ := by unfold Addr.add; split <;> simp_all
    have hcell : w.cell? ⟨b, off + i, none⟩ = some cs[off + i] := by simp [World.cell?, hb]
    have hfz : w.frozen? ⟨b, off + i, none⟩ = false := by simp [World.frozen?, hb]
    have hb' : (w.setCell ⟨b, off + i, none⟩ v).heap[b]? = some (.cells (cs.setIfInBounds (off + i) v) e (0, 0)) := by simp [World.setCell, Array.getElem?_modify, hb]
    obtain ⟨H, cs', h1, h2, h3, h4, h5, h6⟩ := run_storeCells_w (off := off) r (i + 1) (cs.setIfInBounds (off + i) v) (w.setCell ⟨b, off + i, none⟩ v) hb' (by simp; omega) (fun u hu => hv u (List.mem_cons_of_mem _ hu))
    refine ⟨H, cs', ?_, by rw [h2]; simp [World.setCell], h3, fun k hk => ?_, by rw [h5]; simp, ?_⟩
    · have : (store ⟨b, off + i, none⟩ v).run P w = .ok () (w.setCell ⟨b, off + i, none⟩ v) := by
        cases v <;> first | (simp [one] at ho; done) | simp [store, Sem.run, hcell, hfz]
      simp only [storeCells, hadd, Sem.run_bind, this, Result.andThen_ok, h1]
      rfl
    · rw [h4 k hk]
      simp only [World.setCell, Array.getElem?_modify]
      rw [if_neg (by omega)]
    · rw [h6]
      simp only [Array.toList_setIfInBounds, List.length_cons]
      have hlt : off + i < cs.toList.length := by simp; omega
      rw [show off + (i + 1) = off + i + 1 by omega, List.take_succ_eq_append_getElem (by simpa using hlt), List.getElem_set_self, List.take_set_of_le (by omega), List.drop_set_of_lt (by omega)]
      simp [Nat.add_assoc, Nat.add_comm 1]
theorem e_stA {t : TypeId} {x y : Operand} {b off m : Nat} {cs vs : Array Value} {e : TypeId} (i : Nat) (ho : o.op = .store t x y) (hd : o.dst = none) (hm : (P.info? t).map (·.size) = some m) (hx : ev F x = some (.pointer (some ⟨b, off, none⟩))) (hy : ev F y = some (.agg vs)) (hv : vs.toList.all one = true) (hs : vs.size = m)
    (hL : L[i]? = some (.b b (.cells cs e (0, 0)))) (hc : Nat.ble (off + m) cs.size = true) : OpE P n w0 I o F L (fun X => X F (L.set i (.b b (.cells (cs.toList.take off ++ vs.toList ++ cs.toList.drop (off + vs.toList.length)).toArray e (0, 0))))) := by
  intro X hX a w hf ht K Q np hK
  have hc' : off + m ≤ cs.size := Nat.le_of_ble_eq_true hc
  obtain ⟨H, cs', h1, h2, h3, h4, h5, h6⟩ := run_storeCells_w (P := P) (off := off) vs.toList 0 cs w (ht.toWS.get hL) (by simp; omega) (fun v hv' => by simpa using (List.all_eq_true.1 hv) v hv')
  have hcs : cs' = (cs.toList.take off ++ vs.toList ++ cs.toList.drop (off + vs.toList.length)).toArray := by
    apply Array.toList_inj.1
    rw [h6]
    simp
  have hr : (execOp a.eval o).run P w = .ok .skip { w with heap := H } := by
    simp only [execOp, ho, hf.ev hx, hf.ev hy, Instr.storeAt, Instr.sureAddr, storeVar, Value.cells, Sem.run_bind, Sem.run_pure, Result.andThen_ok, run_size hm, hs, ne_eq, not_true, if_false, h1]
  unfold Oper.wp
  rw [hr, Oper.upon_skip, hd]
  exact hK _ _ hX _ _ hf (ht.setObj hL h2 (by rw [h3, hcs]) h4)
theorem v_len {c : Call} {t : TypeId} {e : TypeId} {x : Operand} {ad : Option Addr} {len cap : Nat} (ho : o.op = .call c) (hc : c.callee = .builtin .len) (htt : c.argTypes[0]? = some t) (ht : P.underlying t = some (.slice e)) (hx : ev F x = some (.slice ad len cap)) (ha : c.args = #[x]) : OpV P n w0 I o F L (.int .i64 len) := by
  intro a w hf hs
  simp [execOp, ho, resolve, hc, ha, hf.ev hx, invoke, builtin, Builtin.len_, htt, run_underlying ht, goInt]
theorem v_max {c : Call} {k : IntKind} {x y : Operand} {m q : Int} (ho : o.op = .call c) (hc : c.callee = .builtin .max) (hv : evs F c.args.toList = some [.int k m, .int k q]) : OpV P n w0 I o F L (.int k (if m < q then q else m)) := by
  intro a w hf hs
  have e1 : c.args.map a.eval = #[.int k m, .int k q] := by apply Array.toList_inj.1; simpa using hf.evs hv
  simp [execOp, ho, resolve, hc, e1, invoke, builtin, Builtin.max_, Builtin.max2]
theorem v_min {c : Call} {k : IntKind} {x y : Operand} {m q : Int} (ho : o.op = .call c) (hc : c.callee = .builtin .min) (hv : evs F c.args.toList = some [.int k m, .int k q]) : OpV P n w0 I o F L (.int k (if q < m then q else m)) := by
  intro a w hf hs
  have e1 : c.args.map a.eval = #[.int k m, .int k q] := by apply Array.toList_inj.1; simpa using hf.evs hv
  simp [execOp, ho, resolve, hc, e1, invoke, builtin, Builtin.min_, Builtin.min2]
end
end Go.Eng
