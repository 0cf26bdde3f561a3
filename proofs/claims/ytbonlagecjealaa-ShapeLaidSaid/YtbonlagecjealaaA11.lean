/-
Own text, put together by an own program (shake.py) out of this claim's texts: what its theorem needs of them.
-/
import Derived.Test.YtbonlagecjealaaA10
namespace Go.Eng
open Go.RowKit
set_option linter.unusedVariables false
set_option linter.unusedSimpArgs false
theorem rowsIn_w {P : Program} {n : Nat} {row : String} {args : Array Value} {w : World} {R : Value → World → Prop} (h : Rows P row args w R) : RowsIn Fence.wide n P row args w R := by
  intro c cs _
  obtain ⟨v, w', r, s⟩ := h c cs
  exact ⟨v, w', r, stepsIn_wide.2 s⟩
theorem oper_wide {P : Program} {n : Nat} {o : Oper} {a : Act} {w : World} {K : Act → World → Prop} {Q : Exit → Act → World → Prop} (hd : ∀ c, o.op ≠ .defer c) (h : o.wp P a w K Q) : o.wpIn Fence.wide n P a w K Q := by
  refine ⟨fun _ _ => trivial, ?_⟩
  rw [Oper.semAt_eq _ _ _ hd]
  unfold Oper.wp at h
  generalize (execOp a.eval o).run P w = r at h ⊢
  cases r with
  | ok x w' =>
    cases x <;> simp only [Oper.upon] at h <;> simp only [Oper.uponIn] <;> first
      | exact h
      | exact h.elim
      | exact ⟨fun he => by simp [Fence.wide] at he, callsIn_wide.2 h⟩
      | exact ⟨fun he => by simp [Fence.wide] at he, rowsIn_w h⟩
  | halt x w' => cases x <;> simp only [Oper.upon] at h <;> simp only [Oper.uponIn] <;> first | exact h | exact h.elim
section
variable {P : Program} {m : Nat} {n : Sz} {w0 : World} {I : Ix} {F : FL} {L : HL} {o : Oper} {Q : Exit → Act → World → Prop}
def SWI (m : Nat) (P : Program) (n : Sz) (w0 : World) (I : Ix) (ops : Array Oper) (Q : Exit → Act → World → Prop) (l : List Nat) (F : FL) (L : HL) : Prop := NP Q → ∀ a w, Fr n a F → Tri w0 I w L → wpOpsIn Fence.wide m P ops Q l a w
theorem r_ordI {c : Code} {l : List Nat} (h : cK c = 6) (hl : List.range (cOps c).size = l) (k : SWI m P n w0 I (cOps c) Q l F L) : CW P (Code.wpIn Fence.wide m P) n w0 I c Q F L := by
  intro fl np a w hf ht
  have : c = .region (cId c) (cOps c) false := by cases c <;> first | (simp [cK] at h; done) | rfl | (rename_i d; cases d <;> first | rfl | (simp [cK] at h; done))
  rw [this]
  refine wpIn_region ?_
  show wpOpsIn Fence.wide m P (cOps c) Q (List.range (cOps c).size) a w
  rw [hl]
  exact k np a w hf ht
theorem si_end {ops : Array Oper} (k : QW P (Code.wpIn Fence.wide m P) n w0 I .normal Q F L) : SWI m P n w0 I ops Q [] F L := fun np a w hf ht => k (flav_wide m) np a w hf ht
theorem si_v {ops : Array Oper} {i d : Nat} {l : List Nat} {o : Oper} {v : Value} (ho : ops[i]? = some o) (hg : o.guard = none) (hdf : noDefer ops = true) (hd : o.dst = some d) (hn : Nat.blt d n.n = true) (h : OpV P n w0 I o F L v) (k : SWI m P n w0 I ops Q l ((d, v) :: F) L) : SWI m P n w0 I ops Q (i :: l) F L := by
  intro np a w hf ht
  simp only [wpOpsIn, ho]
  rw [if_pos (by simp [Region.wanted, hg])]
  refine oper_wide (noDefer_spec hdf ho) ?_
  unfold Oper.wp
  rw [h a w hf ht.toWS, Oper.upon_value, hd]
  exact k np _ _ (hf.put (blt_lt hn) v) ht
theorem si_e {ops : Array Oper} {i : Nat} {l : List Nat} {o : Oper} {C : (FL → HL → Prop) → Prop} (ho : ops[i]? = some o) (hg : o.guard = none) (hdf : noDefer ops = true) (h : OpE P n w0 I o F L C) (k : C (fun F' L' => SWI m P n w0 I ops Q l F' L')) : SWI m P n w0 I ops Q (i :: l) F L := by
  intro np a w hf ht
  simp only [wpOpsIn, ho]
  rw [if_pos (by simp [Region.wanted, hg])]
  exact oper_wide (noDefer_spec hdf ho) (h _ k a w hf ht _ _ np (fun F' L' hx a' w' hf' ht' => hx np a' w' hf' ht'))
theorem si_yield {ops : Array Oper} {i d ly : Nat} {l : List Nat} {o : Oper} {c : Call} {x : Operand} {vs : List Value} {L1 L0 : HL} (ho : ops[i]? = some o) (hg : o.guard = none) (hop : o.op = .call c) (hc : c.callee = .value x) (hx : ev F x = some (.func (.yield ly) #[] #[])) (hv : evs F c.args.toList = some vs) (hd : o.dst = some d) (hn : Nat.blt d n.n = true)
    (hY : ∀ w, Tri w0 I w L → YieldAt Fence.wide (m - 1) P ly vs.toArray w (fun e w' => (e = .returned (.bool true) ∧ Tri w0 I w' L1) ∨ (e = .returned (.bool false) ∧ Tri w' ⟨[], []⟩ w' L0)))
    (k1 : SWI m P n w0 I ops Q l ((d, .bool true) :: F) L1) (k0 : ∀ w', SWI m P n w' ⟨[], []⟩ ops Q l ((d, .bool false) :: F) L0) : SWI m P n w0 I ops Q (i :: l) F L := by
  intro np a w hf ht
  simp only [wpOpsIn, ho]
  rw [if_pos (by simp [Region.wanted, hg])]
  obtain ⟨fn, tmps, assign, body, hy, hR⟩ := hY w ht
  have e1 : c.args.map a.eval = vs.toArray := Array.toList_inj.1 (by simpa using hf.evs hv)
  refine ⟨fun _ _ => trivial, ?_⟩
  rw [Oper.semAt_eq _ _ _ (fun c' e => by rw [hop] at e; cases e)]
  have hr : (execOp a.eval o).run P w = .ok (.round ly fn tmps assign body) w := by
    simp only [execOp, hop, resolve, hc, e1, hf.ev hx, Deferred.ofValue, Sem.run_bind, Sem.run_pure, Result.andThen_ok, invoke, Array.empty_append, Array.append_empty, hy]
  rw [hr, Oper.uponIn_round]
  refine ⟨fun he => by simp [Fence.wide] at he, hR.mono ?_⟩
  rintro e w' (⟨rfl, h1⟩ | ⟨rfl, h0⟩)
  · show wpOpsIn _ _ _ _ _ _ (a.put o.dst _) w'
    rw [hd]
    exact k1 np _ _ (hf.put (blt_lt hn) _) h1
  · show wpOpsIn _ _ _ _ _ _ (a.put o.dst _) w'
    rw [hd]
    exact k0 w' np _ _ (hf.put (blt_lt hn) _) h0
end
theorem ins_enter {P : Program} {n m : Nat} {f : FuncId} {fn : Func} {c : Code} {args : Array Value} {R : Ending → World → Prop} {F0 : FL} {L : HL} {w0 w : World} {I : Ix} (hf : P.funcs[f]? = some fn) (hb : fn.body = some c) (hm : fn.ntmps = m) (ha : Nat.ble args.size m = true) (hF : enumF 0 args.toList = F0) (ht : Tri w0 I w L) (hR1 : ∀ ch w, ¬ R (.panicked ch) w) (hR2 : ∀ w, ¬ R .outgrown w) (k : CW P (Code.wpIn Fence.wide n P) ⟨m, []⟩ w0 I c (bodyPost P fn R) F0 L) : CallsIn Fence.wide n P f args w R := by
  have ha' : args.size ≤ m := by simpa using Nat.le_of_ble_eq_true ha
  subst hm hF
  refine callsIn_of_wp hf hb trivial ?_ rfl
  refine k (flav_wide n) ⟨fun ch a w hq => ?_, fun a w hq => ?_⟩ _ _ ⟨by simp; omega, rfl, fun j v hv => ?_⟩ ht
  · exact hR1 _ _ hq.2
  · exact hR2 _ hq
  · obtain ⟨_, h2⟩ := look_enumF 0 args.toList j v hv
    rw [Nat.sub_zero] at h2
    have hlt : j < args.size := by
      have := (List.getElem?_eq_some_iff.1 h2).1
      simpa using this
    show (args ++ Array.replicate (fn.ntmps - args.size) undef).getD j undef = v
    rw [Array.getD_eq_getD_getElem?, Array.getElem?_append_left hlt]
    rw [Array.getElem?_toList] at h2
    rw [h2]
    rfl
end Go.Eng
