/-
The walk's own words: parts of rows, rows put together.
-/
import Derived.Test.YtpppcicbkdafeabE6
import Derived.ArgAppend
namespace Go.Eng
open Go.RowKit Go.Proofs.YtpppcicbkdafeabW.PrintWords
set_option linter.unusedVariables false
set_option linter.unusedSimpArgs false
section
variable {P : Program} {W : Code → (Exit → Act → World → Prop) → Act → World → Prop} {n : Sz} {w0 : World} {I : Ix} {F : FL} {L : HL} {o : Oper} {Q : Exit → Act → World → Prop}
/-- a[:h:m]. -/
theorem v_sl3 {t e : TypeId} {x y z : Operand} {A : Option Addr} {len cap h m sz : Nat} {kh km : IntKind} (ho : o.op = .slice t x none (some y) (some z)) (ht : P.underlying t = some (.slice e)) (hsz : (P.info? e).map (·.size) = some sz) (hx : ev F x = some (.slice A len cap)) (hy : ev F y = some (.int kh (h : Nat))) (hz : ev F z = some (.int km (m : Nat))) (h1 : h ≤ m) (h2 : m ≤ cap) : OpV P n w0 I o F L (.slice A h m) := by
  intro a w hf hs
  have ha : (A.map fun x => x.add 0) = A := by cases A <;> simp [Addr.add]
  have e1 : (0 : Int) ≤ (m : Int) := by omega
  have e2 : ((m : Int) : Int) ≤ (cap : Int) := by omega
  have e3 : (0 : Int) ≤ (h : Int) := by omega
  have e4 : ((h : Int) : Int) ≤ (m : Int) := by omega
  simp [execOp, ho, hf.ev hx, hf.ev hy, hf.ev hz, Instr.sliceAt, run_underlying ht, Instr.slice, Instr.sliceBounds, Instr.sliceBound, asIntOf, e1, e2, e3, e4, h1, h2, run_size hsz, ha]
/-- A block of ours that becomes a fact, within a region. -/
theorem s_give {ops : Array Oper} {l : List Nat} {L' : HL} {g : Nat} {o' : Obj} {φ : World → Prop} (idx : List Nat) (hp : pick L idx = some (.b g o' :: L')) (hi : idx.Nodup) (hI : g ∉ I.own) (hφ : ∀ w, w.heap[g]? = some o' → φ w) (k : SW P W n w0 I ops Q l F (.f φ :: L')) : SW P W n w0 I ops Q l F L :=
  fun fl np a w hf ht => k fl np a w hf (tri_give ht idx hp hi hI hφ)
theorem KC_cells {k : IntKind} {A : Option Addr} {c : Nat} {l : List Int} {w : World} (h : KC (Kd.int k) A c l w) {ad : Addr} (hA : A = some ad) (j : Nat) (u : Value) (hu : (l.map (Value.int k))[j]? = some u) : w.cell? (ad.add j) = some u := by
  subst hA
  rw [List.getElem?_map] at hu
  cases hj : l[j]? with
  | none => rw [hj] at hu; cases hu
  | some p =>
    rw [hj] at hu
    have := Option.some.inj hu
    subst this
    obtain ⟨hlt, _⟩ := List.getElem?_eq_some_iff.1 hj
    obtain ⟨ad', e, hc⟩ := h.1.2.2 (by omega)
    injection e with e
    subst e
    obtain ⟨cs, _, hcs, h3⟩ := hc j p hj
    have hcs' : cs = [Value.int k p] := hcs
    subst hcs'
    have := h3 0 _ rfl
    simpa [Kd.int, Kd.scalar] using this
theorem KC_some {k : IntKind} {A : Option Addr} {c : Nat} {l : List Int} {w : World} (h : KC (Kd.int k) A c l w) (hl : 0 < l.length) : ∃ ad, A = some ad := by
  obtain ⟨ad, e, _⟩ := h.1.2.2 hl
  exact ⟨ad, e⟩
/-- append of a row that is read, onto one that has no room. -/
theorem e_appK {k : IntKind} {t e : TypeId} {c : Call} {x y : Operand} {z : Value} {bytes d i j : Nat} {A B : Option Addr} {la lb cb ca' cb' : Nat} {a b : List Int} (ho : o.op = .call c) (hc : c.callee = .builtin .append) (hca : c.args = #[x, y]) (hct : c.argTypes = #[t, t]) (hd : o.dst = some d) (hn : Nat.blt d n.n = true)
    (ht : P.underlying t = some (.slice e)) (hi : (P.info? e).map (fun i => (i.zero, i.size, i.bytes)) = some (some z, 1, bytes)) (hz : z.cells.size = 1)
    (hx : ev F x = some (.slice A la la)) (hla : la = a.length) (hy : ev F y = some (.slice B lb cb)) (hlb : lb = b.length) (hLa : L[i]? = some (.f (KC (Kd.int k) A ca' a))) (hLb : L[j]? = some (.f (KC (Kd.int k) B cb' b))) (hkb : (a.length + b.length) * bytes ≤ 140737488355328) (hkm : a.length + b.length ≤ maxLen) :
    OpE P n w0 I o F L (fun X => ∀ A' c', X ((d, .slice A' (a ++ b).length c') :: F) (.f (KC (Kd.int k) A' c' (a ++ b)) :: L)) := by
  subst hla hlb
  intro X hX act w hf htr K Q np hK
  obtain ⟨inf, hinf, hz'⟩ := Option.map_eq_some_iff.1 hi
  simp only [Prod.mk.injEq] at hz'
  have hKa : KC (Kd.int k) A ca' a w := (htr.facts _ (List.mem_of_getElem? hLa)).here
  have hKb : KC (Kd.int k) B cb' b w := (htr.facts _ (List.mem_of_getElem? hLb)).here
  have hev : ∀ r : Result Value, (Builtin.append_ #[t, t] o.type #[.slice A a.length a.length, .slice B b.length cb]).run P w = r → (execOp act.eval o).run P w = r.andThen fun v w' => .ok (.value v) w' := by
    intro r hr
    subst hr
    simp only [execOp, ho, resolve, hc, hca, hct, Sem.run_bind, Sem.run_pure, Result.andThen_ok, invoke, builtin, List.map_toArray, List.map_cons, List.map_nil, hf.ev hx, hf.ev hy]
  by_cases hb : b = []
  · subst hb
    have hrun : (Builtin.append_ #[t, t] o.type #[.slice A a.length a.length, .slice B ([] : List Int).length cb]).run P w = .ok (.slice A a.length a.length) w := by
      cases A <;> cases B <;> simp [Builtin.append_, run_underlying ht, sizeOf, typeInfo, program, Sem.run, hinf, hz'.2.1, Builtin.lenOf, Builtin.firstCells, loadCells, loadCellsFrom, storeCells]
    unfold Oper.wp
    rw [hev _ hrun, Result.andThen_ok, Oper.upon_value, hd]
    have hh := hX A a.length
    rw [List.append_nil] at hh
    refine hK _ _ hh _ _ (hf.put (blt_lt hn) _) (htr.know ?_)
    intro w' ha
    have h1 := htr.facts _ (List.mem_of_getElem? hLa) w' ha
    exact ⟨h1.1, Nat.le_refl _⟩
  · have hbl : 0 < b.length := (by cases b with | nil => exact absurd rfl hb | cons _ _ => simp)
    obtain ⟨bd, rfl⟩ := KC_some hKb hbl
    have hnews := fun j u hu => KC_cells hKb rfl j u hu
    have hnl : (b.map (Value.int k)).length = b.length * 1 := by simp
    have hgrow : ∃ v' w', (Builtin.append_ #[t, t] o.type #[.slice A a.length a.length, .slice (some bd) b.length cb]).run P w = .ok v' w' ∧ w'.ownsRow w.heap.size e 1 v' (a.length + b.length) (a.map (Value.int k) ++ b.map (Value.int k)) ∧ w.grownBy w' none := by
      cases A with
      | some ad => exact run_append_arg_grows (P := P) w t o.type e inf z 1 bytes ht hinf hz'.1 hz'.2.1 hz'.2.2 hz (by omega) ad a.length a.length (a.map (Value.int k)) (by simp) (fun j u hu => KC_cells hKa rfl j u hu) bd b.length cb (b.map (Value.int k)) hnl hnews (by omega) hkm hkb
      | none =>
        have ha0 : a = [] := by
          cases a with
          | nil => rfl
          | cons p r => obtain ⟨_, e⟩ := KC_some hKa (by simp); cases e
        subst ha0
        obtain ⟨v', w', hrun, r1, r2, _⟩ := run_append_own (P := P) w w.heap.size t o.type e inf z 1 bytes ht hinf hz'.1 hz'.2.1 hz'.2.2 hz (by omega) (.slice none 0 0) 0 [] (World.ownsRow_nil w _ e 1) bd b.length cb (b.map (Value.int k)) hnl hnews (fun u hu => by obtain ⟨p, _, rfl⟩ := List.mem_map.1 hu; rfl) (by simpa using hkm) (by simpa using hkb) (Nat.le_refl _)
        exact ⟨v', w', hrun, by simpa using r1, by simpa [Value.ownBlock] using r2⟩
    obtain ⟨v', w', hrun, hrow, hgr⟩ := hgrow
    obtain ⟨hl, hcase⟩ := hrow
    rcases hcase with ⟨rfl, h0⟩ | ⟨g, cap, cur, rfl, hg, hgh, hnc, hcm, hcsz, htk⟩
    · omega
    · unfold Oper.wp
      rw [hev _ hrun, Result.andThen_ok, Oper.upon_value, hd]
      have hh := hX (some ⟨g, 0, none⟩) cap
      rw [List.length_append] at hh
      have hbel : Below w.heap.size w w' := ⟨hgr.os, hgr.tape, hgr.output, hgr.size, fun j hj => hgr.block j hj (by simp)⟩
      refine hK _ _ hh _ _ (hf.put (blt_lt hn) _) ?_
      have hfr : FreshF w.heap.size w' (KC (Kd.int k) (some ⟨g, 0, none⟩) cap (a ++ b)) := by
        intro w'' _ _ _ _ hag
        refine KC_own (cur := cur) (e := e) ?_ (by rw [List.length_append]; exact hnc) hcm w'' ((hag g hg (Array.getElem?_eq_some_iff.1 hgh).1).trans hgh)
        rw [List.map_append, List.length_append]
        exact htk
      exact tri_facts htr hbel [_] (fun φ hφ => by obtain rfl := List.mem_singleton.1 hφ; exact hfr)
end
end Go.Eng
