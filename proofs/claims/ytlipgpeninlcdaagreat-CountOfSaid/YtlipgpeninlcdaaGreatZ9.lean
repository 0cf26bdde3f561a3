/-
What an operation of a run makes of memory: all of them.
-/
import Derived.Test.YtlipgpeninlcdaaGreatZ8
namespace Go.Run
open Go.Eng
set_option linter.unusedVariables false
set_option linter.unusedSimpArgs false
/-- An operation's own end. -/
def Does (P : Program) (o : Oper) (a : Act) (w : World) (u : Value) (w' : World) : Prop := (execOp a.eval o).run P w = .ok (.value u) w' ∨ ((execOp a.eval o).run P w = .ok .skip w' ∧ u = undef)
theorem Does.wp {P : Program} {o : Oper} {a : Act} {w w' : World} {u : Value} {K : Act → World → Prop} {Q : Exit → Act → World → Prop} (h : Does P o a w u w') (k : K (a.put o.dst u) w') : o.wp P a w K Q := by
  unfold Oper.wp
  rcases h with h | ⟨h, rfl⟩
  · rw [h, Oper.upon_value]; exact k
  · rw [h, Oper.upon_skip]; exact k
section
variable {P : Program} {E : Env} {F : Fm} {FL : FL} {n : Nat} {a : Act} {w0 : World} {H : PT Ob} {c : Nat} {w w' : World} {o : Oper}
theorem agree_push (w : World) (obj : Obj) : Agree [] w { w with heap := w.heap.push obj } ∧ (w.heap.push obj)[w.heap.size]? = some obj :=
  ⟨⟨rfl, rfl, rfl, by simp, fun b hb _ => by simp [Array.getElem?_push, Nat.ne_of_lt hb]⟩, by simp⟩
noncomputable def rho0 : Rho := ⟨fun _ => dI 0, fun _ a => a, fun _ a _ => a, fun _ a _ _ => a⟩
/-- What an operation leaves behind. -/
def Eff (P : Program) (w0 : World) (E : Env) (H : PT Ob) (c : Nat) (o : Oper) (a : Act) (w : World) (v : V) (M : Mm) : Prop :=
  ∃ u w' E', Does P o a w u w' ∧ Nx w0 E H.get c w E' M.H.get M.c M.wl w' ∧ VR E' v u
theorem or_none {E : Env} {cs : List V} {e : Nat} {us : Array Value} (h : VRs E cs us.toList) : OR E ⟨cs, e, none⟩ (.cells us e (0, 0)) := ⟨us.toList, h, by simp⟩
theorem f_alloc {t : TypeId} {z : List V} {wl : List Nat} {pc : List (X × Bool)} (hF : FRel E F FL) (hfr : Fr ⟨n, []⟩ a FL) (hw : Wr w0 E H.get w) (fn : E.ν c = none) (fk : E.κ c = none) (ho : o.op = .alloc t) (hz : zv P t = some z) :
    Eff P w0 E H c o a w (.ptr c 0) (Mm.new ⟨H, c, wl, pc⟩ ⟨z, t, none⟩) := by
  obtain ⟨zz, h1, h2⟩ := zv_ok (E := E.new c w.heap.size none) hz
  obtain ⟨i, hi, hzz⟩ := Option.bind_eq_some_iff.1 h1
  obtain ⟨p1, p2⟩ := agree_push w (.cells zz.cells t)
  refine ⟨.pointer (some ⟨w.heap.size, 0, none⟩), { w with heap := w.heap.push (.cells zz.cells t) }, E.new c w.heap.size none, .inl ?_, nx_new hw fn fk p1 (Nat.le_refl _) p2 (or_none h2) wl, ⟨_, new_ν E c _ _, rfl⟩⟩
  simp [execOp, ho, Instr.alloc, zeroValue, typeInfo, program, Sem.run, hi, hzz, newVar, newRow, newObj]
theorem f_box {t : TypeId} {x : Operand} {v : V} {wl : List Nat} {pc : List (X × Bool)} (hF : FRel E F FL) (hfr : Fr ⟨n, []⟩ a FL) (hw : Wr w0 E H.get w) (fn : E.ν c = none) (fk : E.κ c = none) (ho : o.op = .box t x) (hx : eo F x = some v) :
    Eff P w0 E H c o a w (.ptr c 0) (Mm.new ⟨H, c, wl, pc⟩ ⟨cells v, t, none⟩) := by
  obtain ⟨u, e, r⟩ := eo_ok hF hx
  have hex := ext_new fn fk w.heap.size none
  obtain ⟨p1, p2⟩ := agree_push w (.cells u.cells t)
  refine ⟨.pointer (some ⟨w.heap.size, 0, none⟩), { w with heap := w.heap.push (.cells u.cells t) }, E.new c w.heap.size none, .inl ?_, nx_new hw fn fk p1 (Nat.le_refl _) p2 (or_none (cells_ok (VR.mono hex _ _ r))) wl, ⟨_, new_ν E c _ _, rfl⟩⟩
  simp [execOp, ho, hfr.ev e, Instr.box, Sem.run, newVar, newRow, newObj]
theorem or_upd {ob : Ob} {obj : Obj} {cs vs : List V} {off : Nat} {xs : List Value} (h : OR E ob obj) (hu : upd ob.cells off vs = some cs) (hx : VRs E vs xs) : ∃ cur, obj = .cells cur ob.e (0, 0) ∧ off + xs.length ≤ cur.size ∧ ∀ arr : Array Value, arr.toList = cur.toList.take off ++ (xs ++ cur.toList.drop (off + xs.length)) → OR E ⟨cs, ob.e, ob.more⟩ (.cells arr ob.e (0, 0)) := by
  unfold OR at h
  split at h
  · rename_i hm
    obtain ⟨us, h1, rfl⟩ := h
    obtain ⟨k1, k2⟩ := upd_ok hu h1 hx
    rw [← h1.len, ← hx.len] at k1
    refine ⟨us.toArray, rfl, by simpa using k1, fun arr ha => ?_⟩
    unfold OR
    simp only [hm]
    refine ⟨_, k2, ?_⟩
    congr 1
    apply Array.toList_inj.1
    rw [ha]
  · rename_i cap m hm
    obtain ⟨us, cur, k, h1, h2, rfl, h4, h5, h6⟩ := h
    obtain ⟨k1, k2⟩ := upd_ok hu h1 hx
    rw [← h1.len, ← hx.len] at k1
    obtain ⟨rest, hcur⟩ : ∃ rest, cur.toList = us ++ rest := ⟨cur.toList.drop us.length, by
      have := (List.take_append_drop us.length cur.toList).symm
      rwa [h4] at this⟩
    have hlen : us.length + rest.length = cur.size := by rw [← Array.length_toList, hcur, List.length_append]
    refine ⟨cur, rfl, by omega, fun arr ha => ?_⟩
    rw [hcur, List.take_append_of_le_length (by omega), List.drop_append_of_le_length (by omega), ← List.append_assoc xs, ← List.append_assoc] at ha
    unfold OR
    simp only [hm]
    have hl : (us.take off ++ (xs ++ us.drop (off + xs.length))).length = us.length := by
      simp only [List.length_append, List.length_take, List.length_drop]; omega
    refine ⟨_, arr, k, k2, h2, rfl, ?_, ?_, h6⟩
    · rw [ha, List.take_left' rfl]
    · rw [← Array.length_toList, ha, List.length_append, hl, hlen]; exact h5
theorem one_eq (v : Value) (h : v.oneCell' = true) : Eng.one v = true := by cases v <;> first | rfl | (cases h; done)
theorem f_store {t : TypeId} {x y : Operand} {v : V} {b off m : Nat} {ob : Ob} {cs : List V} {wl : List Nat} {pc : List (X × Bool)} (hF : FRel E F FL) (hfr : Fr ⟨n, []⟩ a FL) (hw : Wr w0 E H.get w) (ho : o.op = .store t x y) (hm : szv P t = some m) (hx : eo F x = some (.ptr b off)) (hy : eo F y = some v) (hb : H.get b = some ob) (hl : Nat.beq (ln (cells v)) m = true) (h1 : ones (cells v) = true) (hu : upd ob.cells off (cells v) = some cs) :
    Eff P w0 E H c o a w .und (Mm.set ⟨H, c, wl, pc⟩ b ⟨cs, ob.e, ob.more⟩) := by
  obtain ⟨_, e1, g, hg, rfl⟩ := eo_ok hF hx
  obtain ⟨u, e2, r⟩ := eo_ok hF hy
  obtain ⟨g', obj, q1, q2, q3⟩ := hw.lr b ob hb
  rw [hg] at q1
  injection q1 with q1
  subst q1
  have hc := cells_ok r
  obtain ⟨cur, rfl, k1, k2⟩ := or_upd q3 hu hc
  have hl := Nat.eq_of_beq_eq_true hl
  rw [ln_eq, ← hc.len] at hl
  obtain ⟨Hp, cs', g1, g2, g3, g4, g5, g6⟩ := run_storeCells_w (P := P) (off := off) u.cells.toList 0 cur w q2 (by simpa using k1) (fun v hv => one_eq v (ones_ok hc h1 v hv))
  have hcs : cs'.toList = cur.toList.take off ++ (u.cells.toList ++ cur.toList.drop (off + u.cells.toList.length)) := by rw [g6]; simp
  refine ⟨undef, { w with heap := Hp }, E, .inr ⟨?_, rfl⟩, nx_set hw hb hg (show Agree [g] w { w with heap := Hp } from ⟨rfl, rfl, rfl, by show _ ≤ Hp.size; omega, fun k hk hn => g4 k (fun e => hn (by rw [e]; exact List.mem_singleton_self _))⟩) g3 (k2 cs' hcs) wl, rfl⟩
  have hl' : u.cells.size = m := by simpa using hl
  simp only [execOp, ho, hfr.ev e1, hfr.ev e2, Instr.storeAt, Instr.sureAddr, storeVar, Sem.run_bind, Sem.run_pure, Result.andThen_ok, run_size (szv_ok hm), hl', ne_eq, not_true, if_false, g1]
theorem rep_eq {α : Type} : ∀ (k : Nat) (l : List α), (rep k l).length = k * l.length ∧ ∀ i, i < k * l.length → (rep k l)[i]? = l[i % l.length]?
  | 0, l => ⟨by simp [rep], fun i hi => by simp at hi⟩
  | k + 1, l => by
    obtain ⟨h1, h2⟩ := rep_eq k l
    unfold rep
    rw [ap_eq]
    refine ⟨by rw [List.length_append, h1, Nat.succ_mul, Nat.add_comm], fun i hi => ?_⟩
    by_cases h : i < l.length
    · rw [List.getElem?_append_left h, Nat.mod_eq_of_lt h]
    · have e : (k + 1) * l.length = k * l.length + l.length := Nat.succ_mul _ _
      rw [List.getElem?_append_right (by omega), h2 _ (by omega), Nat.mod_eq_sub_mod (a := i) (by omega)]
theorem VRs.rep_ {E : Env} {l : List V} {us : List Value} (h : VRs E l us) : ∀ k, VRs E (rep k l) (rep k us)
  | 0 => rfl
  | k + 1 => by unfold rep; rw [ap_eq, ap_eq]; exact h.app (VRs.rep_ h k)
theorem made_eq (z : Array Value) (k m : Nat) (hm : z.size = m) (h0 : 0 < m) : ((Array.range (k * m)).map (fun i => z[i % z.size]!)).toList = rep k z.toList := by
  obtain ⟨h1, h2⟩ := rep_eq k z.toList
  have hz : z.toList.length = m := by simpa using hm
  rw [hz] at h1 h2
  apply List.ext_getElem?
  intro i
  by_cases hi : i < k * m
  · rw [h2 i hi]
    have hlt : i % m < z.size := by rw [hm]; exact Nat.mod_lt _ h0
    have hlt' : i < (Array.map (fun i => z[i % z.size]!) (Array.range (k * m))).size := by simpa using hi
    rw [Array.getElem?_toList, Array.getElem?_eq_getElem hlt', Array.getElem_map, Array.getElem_range, hm, getElem!_pos z (i % m) hlt, Array.getElem?_toList, Array.getElem?_eq_getElem hlt]
  · rw [List.getElem?_eq_none (by simp; omega), List.getElem?_eq_none (by omega)]
theorem elw_ok {t e : TypeId} {m bytes : Nat} {z : List V} (h : elw P t = some (e, m, bytes, z)) : P.underlying t = some (.slice e) ∧ 0 < m ∧ ∃ i zz, P.info? e = some i ∧ i.zero = some zz ∧ i.size = m ∧ i.bytes = bytes ∧ zz.cells.size = m ∧ ∀ E, VRs E z zz.cells.toList := by
  unfold elw at h
  split at h <;> first | (cases h; done) | skip
  rename_i e' he
  split at h <;> first | (cases h; done) | skip
  rename_i i z' hi hz
  split at h <;> first | (cases h; done) | skip
  rename_i k1 k2
  cases h
  obtain ⟨zz, h1, h2⟩ := zv_ok (E := ⟨rho0, fun _ => none, fun _ => none⟩) hz
  rw [hi] at h1
  have k1 := Nat.eq_of_beq_eq_true k1
  have k2 := Nat.le_of_ble_eq_true k2
  refine ⟨elv_ok he, k2, i, zz, hi, h1, rfl, rfl, ?_, fun E => ?_⟩
  · have := h2.len
    rw [Array.length_toList] at this
    rw [this, ← ln_eq, k1]
  · obtain ⟨z2, h3, h4⟩ := zv_ok (E := E) hz
    rw [hi] at h3
    have : zz = z2 := Option.some.inj (h1.symm.trans h3)
    rw [this]; exact h4
theorem map_range0 (f : Nat → Value) : (Array.range 0).map f = #[] := by apply Array.ext <;> simp
theorem f_bslice {t e : TypeId} {len m bytes : Nat} {ps : Array (Nat × Operand)} {z cs : List V} {vs : List (Nat × V)} {wl : List Nat} {pc : List (X × Bool)} (hF : FRel E F FL) (hfr : Fr ⟨n, []⟩ a FL) (hw : Wr w0 E H.get w) (fn : E.ν c = none) (fk : E.κ c = none) (ho : o.op = .buildSlice t len ps) (he : elw P t = some (e, m, bytes, z)) (hv : eps F ps.toList = some vs) (hl : Nat.ble (Nat.mul len m) 16777216 = true) (hc : fillG (fun i => some (Nat.mul i m, m)) (rep len z) vs = some cs) :
    Eff P w0 E H c o a w (.sl c 0 len (.n len)) (Mm.new ⟨H, c, wl, pc⟩ ⟨cs, e, none⟩) := by
  obtain ⟨h1, h2, i, zz, h3, h4, h5, h6, h7, h8⟩ := elw_ok he
  have hex := ext_new fn fk w.heap.size none
  obtain ⟨us, e1, r1, e2⟩ := eps_ok (hF.mono hex) hv
  have hm := made_eq zz.cells len m h7 h2
  obtain ⟨ws, q1, q2⟩ := fillG_ok (E := E.new c w.heap.size none) (pl' := fun i => some (i * m, m)) (zs := (Array.range (len * m)).map (zz.cells[· % zz.cells.size]!)) (fun i q hq => hq) hc (by rw [hm]; exact (h8 _).rep_ len) r1
  rw [e2] at q2
  have e3 : (ps.map fun (i, x) => (i, a.eval x)).toList = (ps.toList.map (·.1)).zip us := by
    rw [← hfr.evs e1]
    simp [List.zip_map', Function.comp_def]
  have hzv : (zeroValue e).run P w = .ok zz w := by
    unfold zeroValue typeInfo
    simp [program, Sem.run, h3, h4]
  obtain ⟨p1, p2⟩ := agree_push w (.cells ws e)
  refine ⟨.slice (some ⟨w.heap.size, 0, none⟩) len len, { w with heap := w.heap.push (.cells ws e) }, E.new c w.heap.size none, .inl ?_, nx_new hw fn fk p1 (Nat.le_refl _) p2 (or_none q1) wl, ⟨_, len, new_ν E c _ _, rfl, Nat.le_refl _, rfl⟩⟩
  have hl' : ¬ (len * m > 2 ^ 24) := by have := Nat.le_of_ble_eq_true hl; simp only [Nat.mul_eq] at this; omega
  by_cases hz : len * m = 0
  · have q3 : Instr.fill (fun i => some (i * m, m)) #[] ((ps.toList.map (·.1)).zip us) = some ws := by rw [hz, map_range0] at q2; exact q2
    have hl0 : ¬ (0 > 2 ^ 24) := by omega
    simp only [execOp, ho, Instr.buildSlice, Sem.run_bind, Sem.run_pure, Result.andThen_ok, run_underlying h1, run_size (show (P.info? e).map (·.size) = some m by rw [h3]; simp [h5]), hz, hl0, if_false, if_true, e3]
    simp [newRow, newObj, Sem.run, map_range0, q3]
  · simp only [execOp, ho, Instr.buildSlice, Sem.run_bind, Sem.run_pure, Result.andThen_ok, run_underlying h1, run_size (show (P.info? e).map (·.size) = some m by rw [h3]; simp [h5]), hl', hz, if_false, hzv, e3, q2]
    simp [newRow, newObj, Sem.run]
theorem f_mslice {t e : TypeId} {m bytes k q : Nat} {x y : Operand} {kx ky : IntKind} {z : List V} {wl : List Nat} {pc : List (X × Bool)} (hF : FRel E F FL) (hfr : Fr ⟨n, []⟩ a FL) (hw : Wr w0 E H.get w) (fn : E.ν c = none) (fk : E.κ c = none) (ho : o.op = .makeSlice t x y) (he : elw P t = some (e, m, bytes, z)) (hx : eo F x = some (.int kx (.lit (.ofNat k)))) (hy : eo F y = some (.int ky (.lit (.ofNat q)))) (hkq : Nat.ble k q = true) (hf : fits q 0 bytes = true) :
    Eff P w0 E H c o a w (.sl c 0 k (.n q)) (Mm.new ⟨H, c, wl, pc⟩ ⟨rep q z, e, none⟩) := by
  obtain ⟨h1, h2, i, zz, h3, h4, h5, h6, h7, h8⟩ := elw_ok he
  have hex := ext_new fn fk w.heap.size none
  obtain ⟨u1, e1, r1⟩ := eo_ok hF hx
  obtain ⟨u2, e2, r2⟩ := eo_ok hF hy
  rw [show u1 = .int kx (.ofNat k) from r1] at e1
  rw [show u2 = .int ky (.ofNat q) from r2] at e2
  unfold fits at hf
  rw [Bool.and_eq_true] at hf
  have f1 := Nat.le_of_ble_eq_true hf.1
  have f2 := Nat.le_of_ble_eq_true hf.2
  have hkq := Nat.le_of_ble_eq_true hkq
  simp only [Nat.add_eq, Nat.mul_eq, Nat.add_zero] at f1 f2
  have hb1 : ((q * bytes : Nat) : Int) ≤ 140737488355328 := by omega
  rw [Int.natCast_mul, Int.mul_comm] at hb1
  have hrun := run_make (P := P) w t e i zz h1 h3 h4 kx ky (k : Int) (q : Int) (by omega) (by omega) (by rw [h6]; omega) (by simp only [maxLen] at f2; omega)
  have hm : (madeCells zz.cells (q * i.size)).toList = rep q zz.cells.toList := by rw [h5]; exact made_eq zz.cells q m h7 h2
  obtain ⟨p1, p2⟩ := agree_push w (.cells (madeCells zz.cells (q * i.size)) e)
  refine ⟨.slice (some ⟨w.heap.size, 0, none⟩) k q, { w with heap := w.heap.push (.cells (madeCells zz.cells (q * i.size)) e) }, E.new c w.heap.size none, .inl ?_, nx_new hw fn fk p1 (Nat.le_refl _) p2 (or_none (by rw [hm]; exact (h8 _).rep_ q)) wl, ⟨_, q, new_ν E c _ _, rfl, hkq, rfl⟩⟩
  simp only [execOp, ho, hfr.ev e1, hfr.ev e2, Sem.run_bind, Sem.run_pure, Result.andThen_ok, Int.ofNat_eq_natCast, hrun, Int.toNat_natCast]
  rfl
theorem agree_of {g : Nat} (h : w.grownBy w' (some g)) : Agree [g] w w' := ⟨h.os, h.tape, h.output, h.size, fun b hb hn => h.block b hb (fun e => hn (by cases e; exact List.mem_singleton_self _))⟩
theorem agree_of0 (h : w.grownBy w' none) : Agree [] w w' := ⟨h.os, h.tape, h.output, h.size, fun b hb _ => h.block b hb (by simp)⟩
/-- append of nothing. -/
theorem run_app0 {t ty e : TypeId} {m : Nat} (ht : P.underlying t = some (.slice e)) (hm : (P.info? e).map (·.size) = some m) (A B : Option Addr) (q cp c' : Nat) (hq : q ≤ cp) (w : World) : (Builtin.append_ #[t, t] ty #[.slice A q cp, .slice B 0 c']).run P w = .ok (.slice A q cp) w := by
  have hq' : q + 0 ≤ cp := hq
  cases B <;> cases A <;> simp [Builtin.append_, run_underlying ht, run_size hm, Builtin.lenOf, Builtin.firstCells, hq, Nat.not_lt.2 hq, storeCells, loadCells, loadCellsFrom]
end
end Go.Run
