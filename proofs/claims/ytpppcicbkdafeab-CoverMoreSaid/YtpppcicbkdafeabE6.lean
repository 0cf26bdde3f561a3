/-
The walk's own words: elements of rows that are read, '==', loops.
-/
import Derived.Test.YtpppcicbkdafeabE4
import Derived.Deep.Slices
namespace Go.Eng
open Go.RowKit Go.Proofs.YtpppcicbkdafeabW.PrintWords
set_option linter.unusedVariables false
set_option linter.unusedSimpArgs false
/-- Where element j of a row stands. -/
def at0 (A : Option Addr) (j : Int) (m : Nat) : Addr := (A.getD ⟨0, 0, none⟩).add (j.toNat * m)
theorem KC_at {α : Type} {d : Kd α} {A : Option Addr} {c : Nat} {l : List α} {w : World} (h : KC d A c l w) (z : α) (j : Int) (h0 : 0 ≤ j) (h1 : j < l.length) {cs : List Value} (hopen : ∀ K, d.K w (l.getD j.toNat z) K → K = cs) (q : Nat) (v : Value) (hq : cs[q]? = some v) : w.cell? ((at0 A j d.sz).add q) = some v := by
  obtain ⟨ad, K, rfl, _, hK, hc⟩ := Kd.C_get h.1 z j h0 h1
  obtain rfl := hopen K hK
  unfold at0
  rw [Go.Deep.add_add]
  exact hc q v hq
theorem add0 (a : Addr) : a.add 0 = a := by simp [Addr.add]
section
variable {P : Program} {W : Code → (Exit → Act → World → Prop) → Act → World → Prop} {n : Sz} {w0 : World} {I : Ix} {F : FL} {L : HL} {o : Oper} {Q : Exit → Act → World → Prop}
/-- An element's address, of a row that is read. -/
theorem v_iaK {α : Type} {d : Kd α} {t e : TypeId} {x y : Operand} {A : Option Addr} {l : List α} {len c c' m i : Nat} {k : IntKind} {j : Int} (ho : o.op = .indexAddr t x y) (ht : P.underlying t = some (.slice e)) (hm : (P.info? e).map (·.size) = some m) (hx : ev F x = some (.slice A len c)) (hy : ev F y = some (.int k j)) (hL : L[i]? = some (.f (KC d A c' l))) (hlen : len = l.length) (h0 : 0 ≤ j) (h1 : j < (l.length : Int)) : OpV P n w0 I o F L (.pointer (some (at0 A j m))) := by
  intro a w hf hs
  have hK : KC d A c' l w := hs.fact _ (List.mem_of_getElem? hL)
  obtain ⟨ad, rfl⟩ : ∃ ad, A = some ad := by
    cases l with
    | nil => simp at h1; omega
    | cons z r => obtain ⟨ad, _, e, _⟩ := Kd.C_get hK.1 z j h0 h1; exact ⟨ad, e⟩
  have h1' : j < (len : Int) := by rw [hlen]; exact h1
  simp [execOp, ho, hf.ev hx, hf.ev hy, Instr.indexAt, asIntOf, run_underlying ht, h0, h1', run_size hm, at0]
theorem v_fax {s : TypeId} {x : Operand} {f : Nat} {fs : Array Field} {fd : Field} {ad : Addr} {m : Nat} (ho : o.op = .fieldAddr s x f) (hs' : P.underlying s = some (.struct fs)) (hf' : fs[f]? = some fd) (hm : (P.info? fd.type).map (·.size) = some (m + 1)) (hx : ev F x = some (.pointer (some ad))) : OpV P n w0 I o F L (.pointer (some (ad.add fd.offset))) := by
  intro a w hf hs
  simp only [execOp, ho, hf.ev hx, Instr.fieldAt, Instr.sureAddr, Sem.run_bind, Sem.run_pure, Result.andThen_ok, run_underlying hs', hf', fieldPlace, run_size hm, Nat.add_eq_zero_iff, Nat.one_ne_zero, and_false, if_false]
/-- A load of an element of one cell. -/
theorem v_ldK {α : Type} {d : Kd α} {t : TypeId} {x : Operand} {D : TypeDesc} {A : Option Addr} {l : List α} {c m : Nat} {j : Int} {v : Value} (z : α) (i : Nat) (ho : o.op = .load t x) (ht : P.underlying t = some D) (hd : notAgg D = true) (hx : ev F x = some (.pointer (some (at0 A j m)))) (hL : L[i]? = some (.f (KC d A c l))) (hsz : d.sz = m) (h0 : 0 ≤ j) (h1 : j < (l.length : Int)) (hopen : ∀ w K, d.K w (l.getD j.toNat z) K → K = [v]) : OpV P n w0 I o F L v :=
  v_ldf i ho ht hd hx hL (fun w hw => by
    subst hsz
    have := KC_at hw z j h0 h1 (hopen w) 0 v rfl
    rwa [add0] at this)
/-- A load of a field of an element. -/
theorem v_ldKf {α : Type} {d : Kd α} {t : TypeId} {x : Operand} {D : TypeDesc} {A : Option Addr} {l : List α} {c m q : Nat} {j : Int} {v : Value} (z : α) (cs : List Value) (i : Nat) (ho : o.op = .load t x) (ht : P.underlying t = some D) (hd : notAgg D = true) (hx : ev F x = some (.pointer (some ((at0 A j m).add q)))) (hL : L[i]? = some (.f (KC d A c l))) (hsz : d.sz = m) (h0 : 0 ≤ j) (h1 : j < (l.length : Int)) (hopen : ∀ w K, d.K w (l.getD j.toNat z) K → K = cs) (hq : cs[q]? = some v) : OpV P n w0 I o F L v :=
  v_ldf i ho ht hd hx hL (fun w hw => by
    subst hsz
    exact KC_at hw z j h0 h1 (hopen w) q v hq)
/-- A load of an element. -/
theorem v_ldKA {α : Type} {d : Kd α} {t : TypeId} {x : Operand} {D : TypeDesc} {A : Option Addr} {l : List α} {c m : Nat} {j : Int} (z : α) (cs : List Value) (i : Nat) (ho : o.op = .load t x) (ht : P.underlying t = some D) (hd : notAgg D = false) (hm : (P.info? t).map (·.size) = some m) (hx : ev F x = some (.pointer (some (at0 A j m)))) (hL : L[i]? = some (.f (KC d A c l))) (hl : cs.length = m) (hsz : d.sz = m) (h0 : 0 ≤ j) (h1 : j < (l.length : Int)) (hopen : ∀ w K, d.K w (l.getD j.toNat z) K → K = cs) : OpV P n w0 I o F L (.agg cs.toArray) :=
  v_ldAf cs i ho ht hd hm hx hL hl (fun w hw q v hq => by
    subst hsz
    exact KC_at hw z j h0 h1 (hopen w) q v hq)
theorem OpV.cast {u v : Value} (h : OpV P n w0 I o F L u) (e : u = v) : OpV P n w0 I o F L v := e ▸ h
theorem eqDepth : ∃ d, Op.maxDepth = d + 2 := ⟨9998, rfl⟩
/-- '==' of structs. -/
theorem v_eqA {t t' : TypeId} {x y : Operand} {xs ys : Array Value} {r : Bool} (ho : o.op = .binOp .eql t x y t') (hx : ev F x = some (.agg xs)) (hy : ev F y = some (.agg ys)) (hg : P.eqGuardType P.depth t = false) (he : ∀ d w, (Op.equalIn (d + 2) t (.agg xs) (.agg ys)).run P w = .ok r w) : OpV P n w0 I o F L (.bool r) := by
  intro a w hf hs
  obtain ⟨d, hd⟩ := eqDepth
  simp [execOp, ho, hf.ev hx, hf.ev hy, eqGuard, binOp, hg, Op.equal, hd]
  have := he d w

  simp [this]
theorem v_eqB {t t' : TypeId} {x y : Operand} {b c : Bool} (ho : o.op = .binOp .eql t x y t') (ht : P.underlying t = some .bool) (hx : ev F x = some (.bool b)) (hy : ev F y = some (.bool c)) : OpV P n w0 I o F L (.bool (b == c)) := by
  intro a w hf hs
  obtain ⟨d, hd⟩ := eqDepth
  have : (Op.equalIn (d + 2) t (.bool b) (.bool c)).run P w = .ok (b == c) w := by
    simp [Op.equalIn, run_underlying ht]
  simp [execOp, ho, hf.ev hx, hf.ev hy, eqGuard, binOp, Op.equal, hd, this]
theorem v_eqnB {t t' : TypeId} {x y : Operand} {b c : Bool} (ho : o.op = .binOp .neq t x y t') (ht : P.underlying t = some .bool) (hx : ev F x = some (.bool b)) (hy : ev F y = some (.bool c)) : OpV P n w0 I o F L (.bool !(b == c)) := by
  intro a w hf hs
  obtain ⟨d, hd⟩ := eqDepth
  have : (Op.equalIn (d + 2) t (.bool b) (.bool c)).run P w = .ok (b == c) w := by
    simp [Op.equalIn, run_underlying ht]
  simp [execOp, ho, hf.ev hx, hf.ev hy, eqGuard, binOp, Op.equal, hd, this]
theorem Tri.dup {w : World} (h : Tri w0 I w L) : ∀ {L1 : HL}, (∀ p ∈ L1, p ∈ L) → ids L1 = [] → Tri w0 I w (L1 ++ L)
  | [], _, _ => h
  | .b n o :: r, _, hi => by rw [ids_b] at hi; cases hi
  | .f φ :: r, hs, hi => by
    rw [ids_f] at hi
    have ih := Tri.dup h (fun p hp => hs p (List.mem_cons_of_mem _ hp)) hi
    refine ih.know ?_
    rw [ids_app, hi, List.nil_append]
    exact h.facts φ (hs _ List.mem_cons_self)
/-- A call that takes facts alone: they stay. -/
theorem e_callF {c : Call} {x : Operand} {g : FuncId} {fn : Func} {fst cap : Array Value} {vs : List Value} {d : Nat} {L1 : HL} {C : (Value → HL → Prop) → Prop} (idx : List Nat) (args : Array Value) (ho : o.op = .call c) (hc : c.callee = .value x) (hx : ev F x = some (.func (.func g) fst cap)) (hv : evs F c.args.toList = some vs) (hargs : fst ++ vs.toArray ++ cap = args)
    (hf : P.funcs[g]? = some fn) (hb : fn.body.isNone = false) (hname : (fn.name == "runtime.NumGoroutine") = false) (hd : o.dst = some d) (hn : Nat.blt d n.n = true) (h1 : pick L idx = some L1) (hi : ids L1 = [])
    (hcon : ∀ w, Tri w0 I w L → Con P g args w (I.holes ++ ids L) L1 C) : OpE P n w0 I o F L (fun X => C (fun v L1' => X ((d, v) :: F) (L1' ++ L))) := by
  intro X hX a w hfr ht K Q np hK
  have e1 : c.args.map a.eval = vs.toArray := Array.toList_inj.1 (by simpa using hfr.evs hv)
  have hr : (execOp a.eval o).run P w = .ok (.enter g args) w := by
    simp only [execOp, ho, resolve, hc, e1, hfr.ev hx, Deferred.ofValue, Sem.run_bind, Sem.run_pure, Result.andThen_ok, invoke, hargs, run_callFunc hf hb hname]
  have ht1 : Tri w0 I w (L1 ++ L) := ht.dup (mem_pick h1) hi
  have hnd : (ids (L1 ++ L)).Nodup := ht1.nodup
  have h := hcon w ht (ht1.here (fun p hp => hp) hnd) _ hX
  unfold Oper.wp
  rw [hr, Oper.upon_enter]
  refine h.mono ?_
  rintro e w' ⟨v, L', rfl, hx', ht'⟩
  show K (a.put o.dst v) w'
  rw [hd]
  exact hK _ _ hx' _ _ (hfr.put (blt_lt hn) v) (ht1.trans (fun p hp => hp) hnd ht')
/-! ### loops -/
/-- Before a round. -/
def LoopAt {σ : Type} (n : Sz) (w0 : World) (I : Ix) (Inv : σ → Prop) (μ : σ → Nat) (Fs : σ → FL) (Ls : σ → HL) (m : Nat) (a : Act) (w : World) : Prop := ∃ s, Inv s ∧ μ s = m ∧ Fr n a (Fs s) ∧ Tri w0 I w (Ls s)
theorem c_loop {σ : Type} {c : Code} (Inv : σ → Prop) (μ : σ → Nat) (Fs : σ → FL) (Ls : σ → HL) (s0 : σ) (idx : List Nat) (h : cK c = 4) (h0 : Inv s0) (hF : ∀ j v, look (Fs s0) j = some v → look F j = some v) (hp : pick L idx = some (Ls s0)) (hi : idx.Nodup)
    (hbody : ∀ s, Inv s → CW P W n w0 I (cA c) (Exit.then (fun a' w' => ∃ k, k < μ s ∧ LoopAt n w0 I Inv μ Fs Ls k a' w') Q) (Fs s) (Ls s)) : CW P W n w0 I c Q F L := by
  intro fl np a w hf ht
  have : c = .loop (cA c) := by cases c <;> first | (simp [cK] at h; done) | rfl | (rename_i d; cases d <;> first | rfl | (simp [cK] at h; done))
  rw [this]
  refine fl.loop (fun m a w => LoopAt n w0 I Inv μ Fs Ls m a w) (μ s0) ⟨s0, h0, rfl, hf.sub hF, ht.pick (mem_pick hp) (pick_nodup ht.nodup hp hi)⟩ ?_
  rintro m a' w' ⟨s, hs, rfl, hf', ht'⟩
  exact hbody s hs fl ⟨fun c a w h => np.1 c a w h, fun a w h => np.2 a w h⟩ a' w' hf' ht'
/-- One round more. -/
theorem q_again {σ : Type} {Inv : σ → Prop} {μ : σ → Nat} {Fs : σ → FL} {Ls : σ → HL} {m : Nat} (s' : σ) (idx : List Nat) (hs : Inv s') (hm : μ s' < m) (hF : ∀ j v, look (Fs s') j = some v → look F j = some v) (hp : pick L idx = some (Ls s')) (hi : idx.Nodup) : QW P W n w0 I .normal (Exit.then (fun a' w' => ∃ k, k < m ∧ LoopAt n w0 I Inv μ Fs Ls k a' w') Q) F L :=
  fun fl np a w hf ht => ⟨μ s', hm, s', hs, rfl, hf.sub hF, ht.pick (mem_pick hp) (pick_nodup ht.nodup hp hi)⟩
/-- What a frame is known to hold, slot by slot. -/
def subF (F : FL) : FL → Prop
  | [] => True
  | p :: r => look F p.1 = some p.2 ∧ subF F r
theorem subF_spec {F : FL} : ∀ {F' : FL}, subF F F' → ∀ j v, look F' j = some v → look F j = some v
  | [], _, j, v, h => by cases h
  | p :: r, h, j, v, hv => by
    obtain ⟨d, u⟩ := p
    exact sub_cons h.1 (fun j v hv => subF_spec h.2 j v hv) j v hv
/-- Something that a fact tells of its own. -/
theorem s_know {ops : Array Oper} {l : List Nat} {p : Prop} {φ : World → Prop} (i : Nat) (hL : L[i]? = some (.f φ)) (hφ : ∀ w, φ w → p) (k : p → SW P W n w0 I ops Q l F L) : SW P W n w0 I ops Q l F L :=
  fun fl np a w hf ht => k (hφ w (ht.facts _ (List.mem_of_getElem? hL)).here) fl np a w hf ht
theorem c_know {c : Code} {p : Prop} {φ : World → Prop} (i : Nat) (hL : L[i]? = some (.f φ)) (hφ : ∀ w, φ w → p) (k : p → CW P W n w0 I c Q F L) : CW P W n w0 I c Q F L :=
  fun fl np a w hf ht => k (hφ w (ht.facts _ (List.mem_of_getElem? hL)).here) fl np a w hf ht
theorem s_knowT {ops : Array Oper} {l : List Nat} {φ : World → Prop} (hφ : ∀ w, φ w) (k : SW P W n w0 I ops Q l F (.f φ :: L)) : SW P W n w0 I ops Q l F L :=
  fun fl np a w hf ht => k fl np a w hf (ht.know (fun w' _ => hφ w'))
/-- A fact, once more: ahead of a call that takes it. -/
theorem s_dup {ops : Array Oper} {l : List Nat} {φ : World → Prop} (i : Nat) (hL : L[i]? = some (.f φ)) (k : SW P W n w0 I ops Q l F (.f φ :: L)) : SW P W n w0 I ops Q l F L :=
  fun fl np a w hf ht => k fl np a w hf (ht.know (ht.facts _ (List.mem_of_getElem? hL)))
theorem c_knowT {c : Code} {φ : World → Prop} (hφ : ∀ w, φ w) (k : CW P W n w0 I c Q F (.f φ :: L)) : CW P W n w0 I c Q F L :=
  fun fl np a w hf ht => k fl np a w hf (ht.know (fun w' _ => hφ w'))
end
end Go.Eng
