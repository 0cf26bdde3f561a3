/-
The walk's own words: rows that are read, contracts of the kit's own kind, rows that grow.
-/
import Derived.Test.YtpppcicbkdafeabE3
import Derived.Test.YtpppcicbkdafeabWWords
import Derived.Test.YtpppcicbkdafeabWMore
import Derived.Maps.AppendAt
namespace Go.Eng
open Go.RowKit Go.Proofs.YtpppcicbkdafeabW.PrintWords
set_option linter.unusedVariables false
set_option linter.unusedSimpArgs false
/-- A slice reads as l. -/
def KC {α : Type} (d : Kd α) (A : Option Addr) (c : Nat) (l : List α) : World → Prop := fun w => Kd.C d w A l.length l ∧ l.length ≤ c
/-- What holds as long as the blocks from B on stay. -/
def FreshF (B : Nat) (w : World) (φ : World → Prop) : Prop := ∀ w', w'.os = w.os → w'.tape = w.tape → w'.output = w.output → w.heap.size ≤ w'.heap.size → (∀ b, B ≤ b → b < w.heap.size → w'.heap[b]? = w.heap[b]?) → φ w'
theorem FreshF.stab {B : Nat} {w : World} {φ : World → Prop} (h : FreshF B w φ) {H : List Nat} (hH : ∀ x ∈ H, x < B) : Stab H w φ := fun w' ha =>
  h w' ha.os ha.tape ha.output ha.size (fun b hb hlt => ha.frame b hlt (fun hm => by have := hH b hm; omega))
theorem FreshF.triv {B : Nat} {w : World} {φ : World → Prop} (h : ∀ w', φ w') : FreshF B w φ := fun w' _ _ _ _ _ => h w'
theorem R_fresh {α : Type} {d : Kd α} {e base : Nat} {ok : Nat → Prop} {w : World} {v : Value} {xs : List α} (h : d.R e w base ok v xs) : ∃ A c, v = .slice A xs.length c ∧ FreshF base w (KC d A c xs) := by
  obtain ⟨A, c, rfl, hlc, _⟩ := Kd.R_reads h
  refine ⟨A, c, rfl, fun w' _ _ _ _ hag => ?_⟩
  have h1 := Kd.R_step (w1 := w') (Kd.R_bound h) (fun k hk hlt => hag k hk.2.1 hlt)
  exact ⟨(Kd.R_reads' h1).2.2, hlc⟩
theorem C_stab {α : Type} {d : Kd α} {w : World} {A : Option Addr} {c : Nat} {l : List α} (h : Kd.C d w A l.length l) (hc : l.length ≤ c) : Stab [] w (KC d A c l) := fun w' ha => ⟨Kd.C_below h ha.below, hc⟩
theorem KC_own {k : IntKind} {g cap e : Nat} {cur : Array Value} {xs : List Int} (htk : cur.toList.take (xs.length * 1) = xs.map (Value.int k)) (hc : xs.length ≤ cap) (hm : cap ≤ maxLen) (w : World) (h : w.heap[g]? = some (.cells cur e (0, 0))) : KC (Kd.int k) (some ⟨g, 0, none⟩) cap xs w := by
  refine ⟨Kd.C_of_reads (d := 0) ⟨rfl, by simp only [maxLen] at hm; omega, fun _ => ⟨_, rfl, fun j hj => ?_⟩⟩, hc⟩
  have h1 : cur[j]? = some (Value.int k (xs.getD j 0)) := by
    have h2 : (cur.toList.take (xs.length * 1))[j]? = (xs.map (Value.int k))[j]? := by rw [htk]
    rw [List.getElem?_take, if_pos (by omega), List.getElem?_map, List.getElem?_eq_getElem hj] at h2
    rw [List.getD_eq_getElem?_getD, List.getElem?_eq_getElem hj]
    simpa using h2
  have e1 : (⟨g, 0, none⟩ : Addr).add j = ⟨g, j, none⟩ := by unfold Addr.add; split <;> simp_all
  rw [e1]
  simp [World.cell?, h, h1]
theorem KC_nil {α : Type} (d : Kd α) (w : World) : KC d none 0 ([] : List α) w := ⟨Kd.C_nil d w, Nat.le_refl _⟩
section
variable {P : Program} {W : Code → (Exit → Act → World → Prop) → Act → World → Prop} {n : Sz} {w0 : World} {I : Ix} {F : FL} {L : HL} {o : Oper} {Q : Exit → Act → World → Prop}
theorem Tri.fact {w : World} (h : Tri w0 I w L) (i : Nat) {φ : World → Prop} (hi : L[i]? = some (.f φ)) : φ w := (h.facts φ (List.mem_of_getElem? hi)).here
theorem ids_facts (fs : List (World → Prop)) : ids (fs.map Ent.f) = [] := by
  induction fs with
  | nil => rfl
  | cons ψ r ih => rw [List.map_cons, ids_f]; exact ih
theorem tri_facts {w w' : World} (h : Tri w0 I w L) (hb : Below w.heap.size w w') (fs : List (World → Prop)) (hf : ∀ φ ∈ fs, FreshF w.heap.size w' φ) : Tri w0 I w' (fs.map Ent.f ++ L) := by
  induction fs with
  | nil => exact h.of_below hb
  | cons φ r ih =>
    have ih' := ih (fun ψ hψ => hf ψ (List.mem_cons_of_mem _ hψ))
    refine ih'.know ?_
    rw [ids_app, ids_facts, List.nil_append]
    refine (hf φ List.mem_cons_self).stab (fun x hx => ?_)
    rcases List.mem_append.1 hx with hx | hx
    · have := (h.hol x hx).1; have := h.size; omega
    · exact h.lt hx
/-- A call by a contract of the kit's own kind: nothing that was there is turned; what it hands back is new, or holds anyway. -/
theorem e_callK {γ : Type} {c : Call} {x : Operand} {g : FuncId} {fn : Func} {fst cap : Array Value} {vs : List Value} {d : Nat} (val : γ → Value) (fs : γ → List (World → Prop)) (args : Array Value) (ho : o.op = .call c) (hc : c.callee = .value x) (hx : ev F x = some (.func (.func g) fst cap)) (hv : evs F c.args.toList = some vs) (hargs : fst ++ vs.toArray ++ cap = args)
    (hf : P.funcs[g]? = some fn) (hb : fn.body.isNone = false) (hname : (fn.name == "runtime.NumGoroutine") = false) (hd : o.dst = some d) (hn : Nat.blt d n.n = true)
    (hcon : ∀ w, Tri w0 I w L → Calls P g args w fun e w' => ∃ z : γ, e = .returned (val z) ∧ (∀ φ ∈ fs z, FreshF w.heap.size w' φ) ∧ Below w.heap.size w w') : OpE P n w0 I o F L (fun X => ∀ z, X ((d, val z) :: F) ((fs z).map Ent.f ++ L)) := by
  intro X hX a w hfr ht K Q np hK
  have e1 : c.args.map a.eval = vs.toArray := Array.toList_inj.1 (by simpa using hfr.evs hv)
  have hr : (execOp a.eval o).run P w = .ok (.enter g args) w := by
    simp only [execOp, ho, resolve, hc, e1, hfr.ev hx, Deferred.ofValue, Sem.run_bind, Sem.run_pure, Result.andThen_ok, invoke, hargs, run_callFunc hf hb hname]
  unfold Oper.wp
  rw [hr, Oper.upon_enter]
  refine (hcon w ht).mono ?_
  rintro e w' ⟨z, rfl, hfs, hb'⟩
  show K (a.put o.dst (val z)) w'
  rw [hd]
  exact hK _ _ (hX z) _ _ (hfr.put (blt_lt hn) _) (tri_facts ht hb' _ hfs)
/-- A contract of the engine's own: for a call in a world where nothing is ours. -/
theorem calls_of_con {f : FuncId} {args : Array Value} {w : World} {L : HL} {C : (Value → HL → Prop) → Prop} (h : Con P f args w [] L C) (ht : Tri w ⟨ids L, []⟩ w L) {R : Value → HL → Prop} (hC : C R) : Calls P f args w fun e w' => ∃ v L', e = .returned v ∧ R v L' ∧ Tri w ⟨ids L, []⟩ w' L' := h ht R hC
/-- A load of one cell, by a fact. -/
theorem v_ldf {t : TypeId} {x : Operand} {d : TypeDesc} {ad : Addr} {v : Value} {φ : World → Prop} (i : Nat) (ho : o.op = .load t x) (ht : P.underlying t = some d) (hd : notAgg d = true) (hx : ev F x = some (.pointer (some ad)))
    (hL : L[i]? = some (.f φ)) (hc : ∀ w, φ w → w.cell? ad = some v) : OpV P n w0 I o F L v := by
  intro a w hf hs
  have h1 : w.cell? ad = some v := hc w (hs.fact φ (List.mem_of_getElem? hL))
  simp only [execOp, ho, hf.ev hx, Instr.loadAt, Instr.sureAddr, loadVar, Sem.run_bind, Sem.run_pure, Result.andThen_ok, run_isAgg0 ht hd, if_false, Bool.false_eq_true, run_load h1]
theorem v_ldAf {t : TypeId} {x : Operand} {d : TypeDesc} {ad : Addr} {m : Nat} {φ : World → Prop} (vs : List Value) (i : Nat) (ho : o.op = .load t x) (ht : P.underlying t = some d) (hd : notAgg d = false) (hm : (P.info? t).map (·.size) = some m) (hx : ev F x = some (.pointer (some ad)))
    (hL : L[i]? = some (.f φ)) (hl : vs.length = m) (hc : ∀ w, φ w → ∀ j v, vs[j]? = some v → w.cell? (ad.add j) = some v) : OpV P n w0 I o F L (.agg vs.toArray) := by
  intro a w hf hs
  have h2 := run_loadCells_list (P := P) w ad vs (hc w (hs.fact φ (List.mem_of_getElem? hL)))
  rw [hl] at h2
  simp only [execOp, ho, hf.ev hx, Instr.loadAt, Instr.sureAddr, loadVar, Sem.run_bind, Sem.run_pure, Result.andThen_ok, run_isAgg1 ht hd, if_true, run_size hm, h2]
/-- A load of one cell of a block that nobody turns. -/
theorem v_ldr {t : TypeId} {x : Operand} {d : TypeDesc} {b off : Nat} {cs : Array Value} {e : TypeId} {fz : Nat × Nat} {v : Value} (i : Nat) (ho : o.op = .load t x) (ht : P.underlying t = some d) (hd : notAgg d = true) (hx : ev F x = some (.pointer (some ⟨b, off, none⟩)))
    (hL : L[i]? = some (.f (fun w => w.heap[b]? = some (.cells cs e fz)))) (hc : cs[off]? = some v) : OpV P n w0 I o F L v :=
  v_ldf i ho ht hd hx hL (fun w hw => by simp [World.cell?, hw, hc])
theorem v_ldAr {t : TypeId} {x : Operand} {d : TypeDesc} {b off m : Nat} {cs : Array Value} {e : TypeId} {fz : Nat × Nat} (vs : List Value) (i : Nat) (ho : o.op = .load t x) (ht : P.underlying t = some d) (hd : notAgg d = false) (hm : (P.info? t).map (·.size) = some m) (hx : ev F x = some (.pointer (some ⟨b, off, none⟩)))
    (hL : L[i]? = some (.f (fun w => w.heap[b]? = some (.cells cs e fz)))) (hl : vs.length = m) (hc : (cs.toList.drop off).take m = vs) : OpV P n w0 I o F L (.agg vs.toArray) :=
  v_ldAf vs i ho ht hd hm hx hL hl (fun w hw j v hv => by
    have h1 : w.cell? ⟨b, off + j, none⟩ = some v := by
      rw [← hc, List.getElem?_take] at hv
      split at hv
      · rw [List.getElem?_drop] at hv
        have hv' : cs[off + j]? = some v := by simpa using hv
        simp [World.cell?, hw, hv']
      · cases hv
    unfold Addr.add
    split
    · rename_i h0; subst h0; simpa using h1
    · exact h1)
/-- A row written out. -/
theorem e_bslice {t e : TypeId} {len m : Nat} {ps : Array (Nat × Operand)} {us : List Value} {d : Nat} (cs : Array Value) (z : Value) (ho : o.op = .buildSlice t len ps) (hd : o.dst = some d) (hn : Nat.blt d n.n = true) (ht : P.underlying t = some (.slice e)) (hm : (P.info? e).map (·.size) = some m) (hz : (P.info? e).bind (·.zero) = some z) (hlm : 0 < len * m ∧ len * m ≤ 2 ^ 24)
    (hu : evs F (ps.toList.map (·.2)) = some us) (hc : Instr.fill (fun i => some (i * m, m)) ((Array.range (len * m)).map (z.cells[· % z.cells.size]!)) ((ps.toList.map (·.1)).zip us) = some cs) :
    OpE P n w0 I o F L (fun X => ∀ b, X ((d, .slice (some ⟨b, 0, none⟩) len len) :: F) (.b b (.cells cs e (0, 0)) :: L)) := by
  intro X hX a w hf htr K Q np hK
  obtain ⟨i, hi, hzz⟩ := Option.bind_eq_some_iff.1 hz
  have e1 : (ps.map fun (i, x) => (i, a.eval x)).toList = (ps.toList.map (·.1)).zip us := by
    rw [← hf.evs hu]
    simp [List.zip_map', Function.comp_def]
  have hzv : (zeroValue e).run P w = .ok z w := by
    unfold zeroValue typeInfo
    simp [program, Sem.run, hi, hzz]
  have hr : (execOp a.eval o).run P w = .ok (.value (.slice (some ⟨w.heap.size, 0, none⟩) len len)) { w with heap := w.heap.push (.cells cs e) } := by
    have h1 : ¬ (len * m > 2 ^ 24) := by omega
    have h2 : ¬ (len * m = 0) := by omega
    simp only [execOp, ho, Instr.buildSlice, Sem.run_bind, Sem.run_pure, Result.andThen_ok, run_underlying ht, run_size hm, h1, h2, if_false, hzv, e1, hc]
    simp [newRow, newObj, Sem.run]
  unfold Oper.wp
  rw [hr, Oper.upon_value, hd]
  exact hK _ _ (hX w.heap.size) _ _ (hf.put (blt_lt hn) _) (htr.alloc _)
/-- append onto a row that is nil: a row of our own. -/
theorem e_app_nil {t e : TypeId} {c : Call} {x y : Operand} {z : Value} {m bytes k cp d i : Nat} {b off : Nat} {cs news : List Value} {ee : TypeId} (ho : o.op = .call c) (hc : c.callee = .builtin .append) (hca : c.args = #[x, y]) (hct : c.argTypes = #[t, t]) (hd : o.dst = some d) (hn : Nat.blt d n.n = true)
    (ht : P.underlying t = some (.slice e)) (hi : (P.info? e).map (fun i => (i.zero, i.size, i.bytes)) = some (some z, m, bytes)) (hz : z.cells.size = m) (hm : 0 < m)
    (hx : ev F x = some (.slice none 0 0)) (hy : ev F y = some (.slice (some ⟨b, off, none⟩) k cp)) (hL : L[i]? = some (.b b (.cells cs.toArray ee (0, 0)))) (hnews : (cs.drop off).take (k * m) = news) (hnl : news.length = k * m) (hone : ∀ u ∈ news, u.oneCell' = true) (hk : 0 < k) (hkb : k * bytes ≤ 140737488355328) (hkm : k ≤ maxLen) :
    OpE P n w0 I o F L (fun X => ∀ g cap cur, k ≤ cap → cap ≤ maxLen → cur.size = cap * m → cur.toList.take (k * m) = news → X ((d, .slice (some ⟨g, 0, none⟩) k cap) :: F) (.b g (.cells cur e (0, 0)) :: L)) := by
  intro X hX a w hf htr K Q np hK
  obtain ⟨inf, hinf, hz'⟩ := Option.map_eq_some_iff.1 hi
  simp only [Prod.mk.injEq] at hz'
  have hown : w.ownsRow w.heap.size e m (.slice none 0 0) 0 [] := ⟨by simp, .inl ⟨rfl, rfl⟩⟩
  have hcell : ∀ j u, news[j]? = some u → w.cell? ((⟨b, off, none⟩ : Addr).add j) = some u := by
    intro j u hu
    have h1 : w.cell? ⟨b, off + j, none⟩ = some u := by
      rw [htr.toWS.cell hL]
      rw [← hnews, List.getElem?_take] at hu
      split at hu
      · rw [List.getElem?_drop] at hu; simpa using hu
      · cases hu
    unfold Addr.add
    split
    · rename_i h0; subst h0; simpa using h1
    · exact h1
  obtain ⟨v', w', hrun, hrow, hgrow, hnil⟩ := run_append_own (P := P) w w.heap.size t o.type e inf z m bytes ht hinf hz'.1 hz'.2.1 hz'.2.2 hz hm (.slice none 0 0) 0 [] hown ⟨b, off, none⟩ k cp news hnl hcell hone (by omega) (by rw [Nat.zero_add]; exact hkb) (Nat.le_refl _)
  have hr : (execOp a.eval o).run P w = .ok (.value v') w' := by
    simp only [execOp, ho, resolve, hc, hca, hct, Sem.run_bind, Sem.run_pure, Result.andThen_ok, invoke, builtin, List.map_toArray, List.map_cons, List.map_nil, hf.ev hx, hf.ev hy, hrun]
  obtain ⟨hl, hcase⟩ := hrow
  rcases hcase with ⟨rfl, h0⟩ | ⟨g, cap, cur, rfl, hg, hgh, hnc, hcm, hsz, htk⟩
  · omega
  · unfold Oper.wp
    rw [hr, Oper.upon_value, hd]
    simp only [Nat.zero_add, List.nil_append] at hnc htk ⊢
    refine hK _ _ (hX g cap cur hnc hcm hsz htk) _ _ (hf.put (blt_lt hn) _) ?_
    have hbel : Below w.heap.size w w' := ⟨hgrow.os, hgrow.tape, hgrow.output, hgrow.size, fun j hj => hgrow.block j hj (by simp [Value.ownBlock])⟩
    have h1 := htr.of_below hbel
    have hgn : g ∉ ids L := fun hm' => by have := htr.lt hm'; omega
    refine { toAgree := h1.toAgree, at_ := fun j o' hp => ?_, own := fun j hj => ?_, nodup := by rw [ids_b, List.nodup_cons]; exact ⟨hgn, h1.nodup⟩, hol := h1.hol, facts := fun φ hφ => ?_ }
    · rcases List.mem_cons.1 hp with hp | hp
      · injection hp with e1 e2; subst e1 e2; exact hgh
      · exact h1.at_ j o' hp
    · rw [ids_b] at hj
      rcases List.mem_cons.1 hj with rfl | hj
      · have := htr.size; exact .inr (by omega)
      · exact h1.own j hj
    · have hφ' : Ent.f φ ∈ L := by
        rcases List.mem_cons.1 hφ with hφ | hφ
        · cases hφ
        · exact hφ
      refine (htr.facts φ hφ').on (Agree.of_below hbel) (fun x hx hlt => ?_)
      rw [ids_b] at hx
      rcases List.mem_append.1 hx with hx | hx
      · exact List.mem_append_left _ hx
      · rcases List.mem_cons.1 hx with rfl | hx
        · omega
        · exact List.mem_append_right _ hx
/-- A block of ours that another one takes the place of. -/
theorem Tri.swap {w w' : World} (h : Tri w0 I w L) {i g g' : Nat} {u u' : Obj} (hi : L[i]? = some (.b g u)) (hb : w.grownBy w' (some g)) (hg' : w'.heap[g']? = some u') (hw : g' = g ∨ w.heap.size ≤ g') : Tri w0 I w' (L.set i (.b g' u')) := by
  have hgm : g ∈ ids L := mem_ids.2 ⟨u, List.mem_of_getElem? hi⟩
  -- first: the old block as it is now
  have hglt := h.lt hgm
  obtain ⟨ug, hug⟩ : ∃ ug, w'.heap[g]? = some ug := ⟨w'.heap[g]'(by have := hb.size; omega), Array.getElem?_eq_getElem _⟩
  have h1 : Tri w0 I w' (L.set i (.b g ug)) := by
    refine { os := hb.os.trans h.os, tape := hb.tape.trans h.tape, output := hb.output.trans h.output, size := Nat.le_trans h.size hb.size, frame := fun b hb' hI => ?_, at_ := fun k o' hp => ?_, own := by rw [ids_set hi]; exact h.own, nodup := by rw [ids_set hi]; exact h.nodup, hol := h.hol, facts := fun φ hφ => ?_ }
    · have hne : b ≠ g := by
        rintro rfl
        rcases h.own _ hgm with h1 | h1
        · exact hI h1
        · omega
      have := h.size
      rw [hb.block b (by omega) (fun e => hne (by cases e; rfl))]
      exact h.frame b hb' hI
    · rcases mem_set_other h.nodup hi hp with ⟨rfl, rfl⟩ | ⟨h1, h2⟩
      · exact hug
      · rw [hb.block k (h.lt (mem_ids.2 ⟨o', h2⟩)) (fun e => h1 (by cases e; rfl))]
        exact h.at_ k o' h2
    · rw [ids_set hi]
      refine (h.facts φ (mem_set_fact hφ)).on ⟨hb.os, hb.tape, hb.output, hb.size, fun b hb' hn => ?_⟩ (fun x hx _ => hx)
      exact hb.block b hb' (fun e => hn (by cases e; exact List.mem_append_right _ hgm))
  rcases hw with rfl | hw
  · rw [hug] at hg'
    cases hg'
    exact h1
  · -- the old one is let go of, the new one is ours
    have hsub : ∀ k ∈ ids (L.set i (.b g' u')), k = g' ∨ k ∈ ids L := by
      intro k hk
      obtain ⟨o', ho'⟩ := mem_ids.1 hk
      rcases List.mem_or_eq_of_mem_set ho' with h2 | h2
      · exact .inr (mem_ids.2 ⟨o', h2⟩)
      · injection h2 with e1 _; exact .inl e1
    have hmem : ∀ k o', Ent.b k o' ∈ L.set i (.b g' u') → (k = g' ∧ o' = u') ∨ (k ≠ g ∧ Ent.b k o' ∈ L) := by
      intro k o' hp
      obtain ⟨j, hj⟩ := List.getElem?_of_mem hp
      rw [List.getElem?_set] at hj
      split at hj
      · split at hj
        · have := Option.some.inj hj; injection this with e1 e2; exact .inl ⟨e1.symm, e2.symm⟩
        · cases hj
      · rename_i hne
        refine .inr ⟨fun e => hne ?_, List.mem_of_getElem? hj⟩
        subst e
        exact nodup_idx h.nodup hi hj
    have hnod : (ids (L.set i (.b g' u'))).Nodup := by
      have hfresh : g' ∉ ids L := fun hm' => by have := h.lt hm'; omega
      clear hsub hmem h1 hb hug hg'
      have hno := h.nodup
      clear h hglt hgm
      induction L generalizing i with
      | nil => cases hi
      | cons e r ih =>
        cases i with
        | zero =>
          simp at hi
          subst hi
          rw [List.set_cons_zero, ids_b, List.nodup_cons]
          rw [ids_b] at hno hfresh
          rw [List.nodup_cons] at hno
          exact ⟨fun hm' => hfresh (List.mem_cons_of_mem _ hm'), hno.2⟩
        | succ i =>
          rw [List.set_cons_succ]
          cases e with
          | f φ => rw [ids_f] at hno hfresh ⊢; exact ih (by simpa using hi) hfresh hno
          | b k o' =>
            rw [ids_b] at hno hfresh ⊢
            rw [List.nodup_cons] at hno ⊢
            refine ⟨fun hm' => ?_, ih (by simpa using hi) (fun hm' => hfresh (List.mem_cons_of_mem _ hm')) hno.2⟩
            obtain ⟨o'', ho''⟩ := mem_ids.1 hm'
            rcases List.mem_or_eq_of_mem_set ho'' with h2 | h2
            · exact hno.1 (mem_ids.2 ⟨o'', h2⟩)
            · injection h2 with e1 _
              exact hfresh (by rw [← e1]; exact List.mem_cons_self)
    refine { toAgree := h1.toAgree, at_ := fun k o' hp => ?_, own := fun k hk => ?_, nodup := hnod, hol := h1.hol, facts := fun φ hφ => ?_ }
    · rcases hmem k o' hp with ⟨rfl, rfl⟩ | ⟨h2, h3⟩
      · exact hg'
      · rw [hb.block k (h.lt (mem_ids.2 ⟨o', h3⟩)) (fun e => h2 (by cases e; rfl))]
        exact h.at_ k o' h3
    · rcases hsub k hk with rfl | hk
      · have := h.size; exact .inr (by omega)
      · exact h.own k hk
    · refine (h.facts φ (mem_set_fact hφ)).on ⟨hb.os, hb.tape, hb.output, hb.size, fun b hb' hn => ?_⟩ (fun x hx hlt => ?_)
      · exact hb.block b hb' (fun e => hn (by cases e; exact List.mem_append_right _ hgm))
      · rcases List.mem_append.1 hx with hx | hx
        · exact List.mem_append_left _ hx
        · rcases hsub x hx with rfl | hx
          · omega
          · exact List.mem_append_right _ hx
/-- append onto a row of our own. -/
theorem e_app {t e : TypeId} {c : Call} {x y : Operand} {z : Value} {m bytes k cp d i j : Nat} {b off g q cap : Nat} {cs news olds : List Value} {cur : Array Value} {ee : TypeId} (ho : o.op = .call c) (hc : c.callee = .builtin .append) (hca : c.args = #[x, y]) (hct : c.argTypes = #[t, t]) (hd : o.dst = some d) (hn : Nat.blt d n.n = true)
    (ht : P.underlying t = some (.slice e)) (hi : (P.info? e).map (fun i => (i.zero, i.size, i.bytes)) = some (some z, m, bytes)) (hz : z.cells.size = m) (hm : 0 < m)
    (hx : ev F x = some (.slice (some ⟨g, 0, none⟩) q cap)) (hLg : L[j]? = some (.b g (.cells cur e (0, 0)))) (hqc : q ≤ cap) (hcm : cap ≤ maxLen) (hcs : cur.size = cap * m) (holds : cur.toList.take (q * m) = olds)
    (hy : ev F y = some (.slice (some ⟨b, off, none⟩) k cp)) (hL : L[i]? = some (.b b (.cells cs.toArray ee (0, 0)))) (hnews : (cs.drop off).take (k * m) = news) (hnl : news.length = k * m) (hone : ∀ u ∈ news, u.oneCell' = true) (hkb : (q + k) * bytes ≤ 140737488355328) (hkm : q + k ≤ maxLen) :
    OpE P n w0 I o F L (fun X => ∀ g' cap' cur', q + k ≤ cap' → cap' ≤ maxLen → cur'.size = cap' * m → cur'.toList.take ((q + k) * m) = olds ++ news → X ((d, .slice (some ⟨g', 0, none⟩) (q + k) cap') :: F) (L.set j (.b g' (.cells cur' e (0, 0))))) := by
  intro X hX a w hf htr K Q np hK
  obtain ⟨inf, hinf, hz'⟩ := Option.map_eq_some_iff.1 hi
  simp only [Prod.mk.injEq] at hz'
  have hgget := htr.toWS.get hLg
  have hglt : g < w.heap.size := (Array.getElem?_eq_some_iff.1 hgget).1
  have hol : olds.length = q * m := by rw [← holds, List.length_take, Array.length_toList, hcs]; exact Nat.min_eq_left (Nat.mul_le_mul_right _ hqc)
  have hown : w.ownsRow 0 e m (.slice (some ⟨g, 0, none⟩) q cap) q olds := ⟨hol, .inr ⟨g, cap, cur, rfl, Nat.zero_le _, hgget, hqc, hcm, hcs, holds⟩⟩
  have hcell : ∀ j u, news[j]? = some u → w.cell? ((⟨b, off, none⟩ : Addr).add j) = some u := by
    intro j u hu
    have h1 : w.cell? ⟨b, off + j, none⟩ = some u := by
      rw [htr.toWS.cell hL]
      rw [← hnews, List.getElem?_take] at hu
      split at hu
      · rw [List.getElem?_drop] at hu; simpa using hu
      · cases hu
    unfold Addr.add
    split
    · rename_i h0; subst h0; simpa using h1
    · exact h1
  obtain ⟨v', w', hrun, hrow, hgrow, hnil, hat⟩ := run_append_own_at (P := P) w 0 t o.type e inf z m bytes ht hinf hz'.1 hz'.2.1 hz'.2.2 hz hm _ q olds hown ⟨b, off, none⟩ k cp news hnl hcell hone hkm hkb (Nat.zero_le _)
  have hr : (execOp a.eval o).run P w = .ok (.value v') w' := by
    simp only [execOp, ho, resolve, hc, hca, hct, Sem.run_bind, Sem.run_pure, Result.andThen_ok, invoke, builtin, List.map_toArray, List.map_cons, List.map_nil, hf.ev hx, hf.ev hy, hrun]
  obtain ⟨hl, hcase⟩ := hrow
  rcases hcase with ⟨rfl, h0⟩ | ⟨g', cap', cur', rfl, _, hgh, hnc, hcm', hsz, htk⟩
  · have := hnil.1 rfl; cases this.1
  · unfold Oper.wp
    rw [hr, Oper.upon_value, hd]
    refine hK _ _ (hX g' cap' cur' hnc hcm' hsz htk) _ _ (hf.put (blt_lt hn) _) ?_
    exact htr.swap hLg hgrow hgh (by simp [Value.ownBlock] at hat; omega)
end
end Go.Eng
