/-
The walk's own words: a frame as a row of pairs, memory as a row of blocks; the rules by which code is walked, operation by operation.
-/
import Derived.WalkKit
import Derived.OrdersHeld
import Derived.KernelRfl
import Derived.Deep.Draws
import Derived.Deep.LoopGhost
import Derived.Laws.CopyRow
import Derived.RangeFuncNested
import Derived.RangeFuncBound
import Derived.RangeFuncCalls
import Derived.RangeFuncLeaves
import Derived.OrdersIn
namespace Go.Eng
open Go.RowKit
set_option linter.unusedVariables false
set_option linter.unusedSimpArgs false
abbrev FL := List (Nat × Value)
def look : FL → Nat → Option Value
  | [], _ => none
  | p :: r, j => match Nat.beq p.1 j with | true => some p.2 | false => look r j
def ev (F : FL) : Operand → Option Value
  | .tmp t => look F t
  | .const v => some v
  | .global g => some (.pointer (some ⟨g, 0, none⟩))
  | .func f => some (.func (.func f) #[] #[])
def evs (F : FL) : List Operand → Option (List Value)
  | [] => some []
  | x :: r => match ev F x, evs F r with
    | some v, some vs => some (v :: vs)
    | _, _ => none
structure Sz where
  n : Nat
  ds : List Deferred := []
structure Fr (n : Sz) (a : Act) (F : FL) : Prop where
  size : a.tmps.size = n.n
  defers : a.defers = n.ds
  at_ : ∀ j v, look F j = some v → a.tmps.getD j undef = v
theorem Fr.ev {n : Sz} {a : Act} {F : FL} (h : Fr n a F) {x : Operand} {v : Value} (hv : ev F x = some v) : a.eval x = v := by
  cases x with
  | tmp t => exact h.at_ t v hv
  | const u => exact Option.some.inj hv
  | global g => exact Option.some.inj hv
  | func f => exact Option.some.inj hv
theorem evs_len {F : FL} : ∀ {xs : List Operand} {vs : List Value}, evs F xs = some vs → vs.length = xs.length
  | [], vs, h => by simp [evs] at h; subst h; rfl
  | x :: r, vs, h => by
    simp only [evs] at h
    cases h1 : Eng.ev F x with
    | none => rw [h1] at h; simp at h
    | some u => cases h2 : evs F r with
      | none => rw [h1, h2] at h; simp at h
      | some us =>
        rw [h1, h2] at h
        have := Option.some.inj h
        subst this
        simp [evs_len h2]
theorem Fr.evs {n : Sz} {a : Act} {F : FL} (h : Fr n a F) : ∀ {xs : List Operand} {vs : List Value}, Eng.evs F xs = some vs → xs.map a.eval = vs
  | [], vs, hv => by simp [Eng.evs] at hv; subst hv; rfl
  | x :: r, vs, hv => by
    simp only [Eng.evs] at hv
    cases h1 : Eng.ev F x with
    | none => rw [h1] at hv; simp at hv
    | some u => cases h2 : Eng.evs F r with
      | none => rw [h1, h2] at hv; simp at hv
      | some us =>
        rw [h1, h2] at hv
        have := Option.some.inj hv
        subst this
        simp [h.ev h1, h.evs h2]
theorem blt_lt {d n : Nat} (h : Nat.blt d n = true) : d < n := Nat.le_of_ble_eq_true h
theorem beq_spec {i j : Nat} : Nat.beq i j = true ↔ i = j := by
  constructor
  · exact Nat.eq_of_beq_eq_true
  · rintro rfl; exact Nat.beq_refl _
theorem look_cons (p : Nat × Value) (r : FL) (j : Nat) : look (p :: r) j = if p.1 = j then some p.2 else look r j := by
  simp only [look]
  by_cases h : p.1 = j
  · rw [if_pos h, beq_spec.2 h]
  · rw [if_neg h]
    have : Nat.beq p.1 j = false := by
      cases hb : Nat.beq p.1 j with
      | true => exact absurd (beq_spec.1 hb) h
      | false => rfl
    rw [this]
theorem Fr.put {n : Sz} {a : Act} {F : FL} (h : Fr n a F) {d : Nat} (hd : d < n.n) (v : Value) : Fr n (a.put (some d) v) ((d, v) :: F) := by
  refine ⟨by simp [Act.put, h.size], by simp [Act.put, h.defers], fun j u hu => ?_⟩
  rw [look_cons] at hu
  by_cases hj : d = j
  · subst hj
    rw [if_pos rfl] at hu
    have := Option.some.inj hu
    subst this
    simp [Act.put, h.size, hd]
  · rw [if_neg hj] at hu
    have := h.at_ j u hu
    simp only [Act.put, Array.getD_eq_getD_getElem?, Array.getElem?_setIfInBounds_ne hj] at this ⊢
    exact this
theorem Fr.putNone {n : Sz} {a : Act} {F : FL} (h : Fr n a F) (v : Value) : Fr n (a.put none v) F := h
theorem Fr.sub {n : Sz} {a : Act} {F F' : FL} (h : Fr n a F) (hs : ∀ j v, look F' j = some v → look F j = some v) : Fr n a F' :=
  ⟨h.size, h.defers, fun j v hv => h.at_ j v (hs j v hv)⟩
theorem sub_nil {F : FL} : ∀ j v, look [] j = some v → look F j = some v := fun _ _ h => by cases h
theorem sub_cons {F F' : FL} {d : Nat} {u : Value} (h : look F d = some u) (hr : ∀ j v, look F' j = some v → look F j = some v) : ∀ j v, look ((d, u) :: F') j = some v → look F j = some v := by
  intro j v hv
  rw [look_cons] at hv
  by_cases hj : d = j
  · subst hj; rw [if_pos rfl] at hv; rw [← hv]; exact h
  · rw [if_neg hj] at hv; exact hr j v hv

/-! ### Memory -/
/-- What is known of memory: a block that is ours, and what it holds; or a fact that holds whatever becomes of our blocks. -/
inductive Ent where
  | b (n : Nat) (o : Obj)
  | f (φ : World → Prop)
abbrev HL := List Ent
def Ent.id? : Ent → Option Nat
  | .b n _ => some n
  | .f _ => none
def ids (L : HL) : List Nat := L.filterMap Ent.id?
theorem mem_ids {L : HL} {n : Nat} : n ∈ ids L ↔ ∃ o, Ent.b n o ∈ L := by
  unfold ids
  rw [List.mem_filterMap]
  constructor
  · rintro ⟨e, he, h⟩
    cases e with
    | b m o => simp [Ent.id?] at h; subst h; exact ⟨o, he⟩
    | f φ => simp [Ent.id?] at h
  · rintro ⟨o, h⟩
    exact ⟨_, h, rfl⟩
theorem ids_b (n : Nat) (o : Obj) (L : HL) : ids (.b n o :: L) = n :: ids L := List.filterMap_cons_some rfl
theorem ids_f (φ : World → Prop) (L : HL) : ids (.f φ :: L) = ids L := List.filterMap_cons_none rfl
theorem ids_app (L M : HL) : ids (L ++ M) = ids L ++ ids M := by simp [ids]
/-- Whose blocks these are (own), and which are others' (holes). -/
structure Ix where
  own : List Nat
  holes : List Nat
/-- From w on, in whatever way but for the blocks H. -/
structure Agree (H : List Nat) (w w' : World) : Prop where
  os : w'.os = w.os
  tape : w'.tape = w.tape
  output : w'.output = w.output
  size : w.heap.size ≤ w'.heap.size
  frame : ∀ b, b < w.heap.size → b ∉ H → w'.heap[b]? = w.heap[b]?
theorem Agree.refl (H : List Nat) (w : World) : Agree H w w := ⟨rfl, rfl, rfl, Nat.le_refl _, fun _ _ _ => rfl⟩
theorem Agree.trans {H : List Nat} {a b c : World} (h : Agree H a b) (k : Agree H b c) : Agree H a c :=
  ⟨k.os.trans h.os, k.tape.trans h.tape, k.output.trans h.output, Nat.le_trans h.size k.size, fun x hx hn => (k.frame x (Nat.lt_of_lt_of_le hx h.size) hn).trans (h.frame x hx hn)⟩
theorem Agree.mono {H H' : List Nat} {a b : World} (h : Agree H a b) (hs : ∀ x ∈ H, x < a.heap.size → x ∈ H') : Agree H' a b :=
  ⟨h.os, h.tape, h.output, h.size, fun x hx hn => h.frame x hx (fun hm => hn (hs x hm hx))⟩
theorem Agree.below {a b : World} (h : Agree [] a b) : Below a.heap.size a b := ⟨h.os, h.tape, h.output, h.size, fun k hk => h.frame k hk (by simp)⟩
theorem Agree.of_below {H : List Nat} {a b : World} (h : Below a.heap.size a b) : Agree H a b := ⟨h.os, h.tape, h.output, h.size, fun k hk _ => h.block k hk⟩
/-- A fact that holds from w on, whatever becomes of the blocks H. -/
def Stab (H : List Nat) (w : World) (φ : World → Prop) : Prop := ∀ w', Agree H w w' → φ w'
theorem Stab.here {H : List Nat} {w : World} {φ : World → Prop} (h : Stab H w φ) : φ w := h w (Agree.refl _ _)
theorem Stab.mono {H H' : List Nat} {w : World} {φ : World → Prop} (h : Stab H w φ) (hs : ∀ x ∈ H', x < w.heap.size → x ∈ H) : Stab H' w φ := fun w' ha => h w' (ha.mono hs)
theorem Stab.on {H H' : List Nat} {w w' : World} {φ : World → Prop} (h : Stab H w φ) (ha : Agree H w w') (hs : ∀ x ∈ H', x < w.heap.size → x ∈ H) : Stab H' w' φ := fun w'' ha' =>
  h w'' ⟨ha'.os.trans ha.os, ha'.tape.trans ha.tape, ha'.output.trans ha.output, Nat.le_trans ha.size ha'.size, fun b hb hn => (ha'.frame b (Nat.lt_of_lt_of_le hb ha.size) (fun hm => hn (hs b hm hb))).trans (ha.frame b hb hn)⟩
structure WS (w0 : World) (I : Ix) (w : World) (L : HL) : Prop extends Agree I.own w0 w where
  at_ : ∀ n o, Ent.b n o ∈ L → w.heap[n]? = some o
  fact : ∀ φ, Ent.f φ ∈ L → φ w
structure Tri (w0 : World) (I : Ix) (w : World) (L : HL) : Prop extends Agree I.own w0 w where
  at_ : ∀ n o, Ent.b n o ∈ L → w.heap[n]? = some o
  own : ∀ n ∈ ids L, n ∈ I.own ∨ w0.heap.size ≤ n
  nodup : (ids L).Nodup
  facts : ∀ φ, Ent.f φ ∈ L → Stab (I.holes ++ ids L) w φ
  hol : ∀ n ∈ I.holes, n < w0.heap.size ∧ n ∉ I.own
theorem Tri.toWS {w0 : World} {I : Ix} {w : World} {L : HL} (h : Tri w0 I w L) : WS w0 I w L := { toAgree := h.toAgree, at_ := h.at_, fact := fun φ hφ => (h.facts φ hφ).here }
theorem WS.get {w0 : World} {I : Ix} {w : World} {L : HL} (h : WS w0 I w L) {i b : Nat} {o : Obj} (hi : L[i]? = some (.b b o)) : w.heap[b]? = some o :=
  h.at_ _ _ (List.mem_of_getElem? hi)
theorem WS.cell {w0 : World} {I : Ix} {w : World} {L : HL} (h : WS w0 I w L) {i b : Nat} {cs : Array Value} {e : TypeId} {fz : Nat × Nat} (hi : L[i]? = some (.b b (.cells cs e fz))) (j : Nat) : w.cell? ⟨b, j, none⟩ = cs[j]? := by
  simp [World.cell?, h.get hi]
theorem WS.ext {w0 : World} {I : Ix} {w : World} {L : HL} (h : WS w0 I w L) {a : Addr} {v : Value} (hc : w0.cell? a = some v) (ha : a.block ∉ I.own) : w.cell? a = some v := by
  have hlt := World.block_lt_of_cell? w0 _ hc
  rw [World.cell?_of_block (w := w0) (h.frame _ hlt ha)]
  exact hc
theorem Tri.lt {w0 : World} {I : Ix} {w : World} {L : HL} (h : Tri w0 I w L) {n : Nat} (hn : n ∈ ids L) : n < w.heap.size := by
  obtain ⟨o, ho⟩ := mem_ids.1 hn
  exact (Array.getElem?_eq_some_iff.1 (h.at_ n o ho)).1
theorem Tri.drew {w0 : World} {I : Ix} {w : World} {L : HL} (h : Tri w0 I w L) : Tri w0 I { w with drawn := w.drawn + 1 } L :=
  { os := h.os, tape := h.tape, output := h.output, size := h.size, frame := h.frame, at_ := h.at_, own := h.own, nodup := h.nodup, hol := h.hol,
    facts := fun φ hφ => (h.facts φ hφ).on (w' := { w with drawn := w.drawn + 1 }) ⟨rfl, rfl, rfl, Nat.le_refl _, fun _ _ _ => rfl⟩ (fun x hx _ => hx) }
theorem Tri.alloc {w0 : World} {I : Ix} {w : World} {L : HL} (h : Tri w0 I w L) (o : Obj) : Tri w0 I { w with heap := w.heap.push o } (.b w.heap.size o :: L) := by
  have hids : ids (.b w.heap.size o :: L) = w.heap.size :: ids L := by simp [ids, Ent.id?]
  refine { os := h.os, tape := h.tape, output := h.output, size := by have := h.size; simp; omega, frame := fun b hb hI => ?_, at_ := fun n u hp => ?_, own := fun n hn => ?_, nodup := ?_, facts := fun φ hφ => ?_, hol := h.hol }
  · have := h.size
    show (w.heap.push o)[b]? = _
    rw [Array.getElem?_push, if_neg (by omega)]
    exact h.frame b hb hI
  · rcases List.mem_cons.1 hp with hp | hp
    · injection hp with e1 e2
      subst e1 e2
      simp
    · have := h.lt (mem_ids.2 ⟨u, hp⟩)
      show (w.heap.push o)[n]? = _
      rw [Array.getElem?_push, if_neg (by omega)]
      exact h.at_ n u hp
  · rw [hids] at hn
    rcases List.mem_cons.1 hn with rfl | hn
    · exact .inr h.size
    · exact h.own n hn
  · rw [hids, List.nodup_cons]
    exact ⟨fun hm => by have := h.lt hm; omega, h.nodup⟩
  · have hφ' : Ent.f φ ∈ L := by
      rcases List.mem_cons.1 hφ with hφ | hφ
      · cases hφ
      · exact hφ
    refine (h.facts φ hφ').on ⟨rfl, rfl, rfl, by simp, fun b hb _ => ?_⟩ ?_
    · show (w.heap.push o)[b]? = _
      rw [Array.getElem?_push, if_neg (by omega)]
    · intro x hx hlt
      rw [hids] at hx
      rcases List.mem_append.1 hx with hx | hx
      · exact List.mem_append_left _ hx
      · rcases List.mem_cons.1 hx with rfl | hx
        · omega
        · exact List.mem_append_right _ hx
theorem ids_set {L : HL} {i b : Nat} {o o' : Obj} (hi : L[i]? = some (.b b o)) : ids (L.set i (.b b o')) = ids L := by
  induction L generalizing i with
  | nil => cases hi
  | cons e r ih =>
    cases i with
    | zero =>
      simp at hi
      subst hi
      simp [ids, Ent.id?]
    | succ i =>
      have := ih (i := i) (by simpa using hi)
      unfold ids at this ⊢
      simp only [List.set_cons_succ, List.filterMap_cons, this]
theorem mem_set_other {L : HL} {i b n : Nat} {o o' u : Obj} (hn : (ids L).Nodup) (hi : L[i]? = some (.b b o)) (hm : Ent.b n u ∈ L.set i (.b b o')) : (n = b ∧ u = o') ∨ (n ≠ b ∧ Ent.b n u ∈ L) := by
  induction L generalizing i with
  | nil => cases hi
  | cons e r ih =>
    cases i with
    | zero =>
      simp at hi
      subst hi
      rw [List.set_cons_zero] at hm
      rcases List.mem_cons.1 hm with hm' | hm'
      · injection hm' with e1 e2
        exact .inl ⟨e1, e2⟩
      · refine .inr ⟨fun e => ?_, List.mem_cons_of_mem _ hm'⟩
        rw [ids_b, List.nodup_cons] at hn
        exact hn.1 (e ▸ mem_ids.2 ⟨u, hm'⟩)
    | succ i =>
      have hi' : r[i]? = some (.b b o) := by simpa using hi
      have hbr : b ∈ ids r := mem_ids.2 ⟨o, List.mem_of_getElem? hi'⟩
      rw [List.set_cons_succ] at hm
      have hnr : (ids r).Nodup := by
        cases e with
        | b m q => have : ids (.b m q :: r) = m :: ids r := by simp [ids, Ent.id?]
                   rw [this, List.nodup_cons] at hn; exact hn.2
        | f φ => have : ids (.f φ :: r) = ids r := ids_f _ _
                 rw [this] at hn; exact hn
      rcases List.mem_cons.1 hm with hm | hm
      · subst hm
        refine .inr ⟨fun e => ?_, List.mem_cons_self⟩
        subst e
        have : ids (.b n u :: r) = n :: ids r := by simp [ids, Ent.id?]
        rw [this, List.nodup_cons] at hn
        exact hn.1 hbr
      · rcases ih hnr hi' hm with h | h
        · exact .inl h
        · exact .inr ⟨h.1, List.mem_cons_of_mem _ h.2⟩
theorem mem_set_fact {L : HL} {i b : Nat} {o' : Obj} {φ : World → Prop} (hm : Ent.f φ ∈ L.set i (.b b o')) : Ent.f φ ∈ L := by
  rcases List.mem_or_eq_of_mem_set hm with h | h
  · exact h
  · cases h
/-- A block that is turned. -/
theorem Tri.setObj {w0 : World} {I : Ix} {w : World} {L : HL} (h : Tri w0 I w L) {i b : Nat} {o o' : Obj} (hi : L[i]? = some (.b b o)) {H : Array Obj} (hs : H.size = w.heap.size) (hb : H[b]? = some o') (ho : ∀ k, k ≠ b → H[k]? = w.heap[k]?) :
    Tri w0 I { w with heap := H } (L.set i (.b b o')) := by
  have hm : b ∈ ids L := mem_ids.2 ⟨o, List.mem_of_getElem? hi⟩
  refine { os := h.os, tape := h.tape, output := h.output, size := by show _ ≤ H.size; rw [hs]; exact h.size, frame := fun k hk hI => ?_, at_ := fun n u hp => ?_, own := by rw [ids_set hi]; exact h.own, nodup := by rw [ids_set hi]; exact h.nodup, facts := fun φ hφ => ?_, hol := h.hol }
  · have hne : k ≠ b := by
      rintro rfl
      rcases h.own _ hm with h1 | h1
      · exact hI h1
      · omega
    show H[k]? = _
    rw [ho k hne]
    exact h.frame k hk hI
  · rcases mem_set_other h.nodup hi hp with ⟨rfl, rfl⟩ | ⟨h1, h2⟩
    · exact hb
    · show H[n]? = _
      rw [ho _ h1]
      exact h.at_ n u h2
  · refine (h.facts φ (mem_set_fact hφ)).on ⟨rfl, rfl, rfl, by show _ ≤ H.size; omega, fun k hk hn => ?_⟩ ?_
    · show H[k]? = _
      exact ho k (fun e => hn (by rw [e]; exact List.mem_append_right _ hm))
    · intro x hx _
      rw [ids_set hi] at hx
      exact hx
theorem Tri.setCell {w0 : World} {I : Ix} {w : World} {L : HL} (h : Tri w0 I w L) {i b : Nat} {cs : Array Value} {e : TypeId} {fz : Nat × Nat} (hi : L[i]? = some (.b b (.cells cs e fz))) (j : Nat) (v : Value) :
    Tri w0 I (w.setCell ⟨b, j, none⟩ v) (L.set i (.b b (.cells (cs.setIfInBounds j v) e fz))) := by
  have hg := h.toWS.get hi
  refine h.setObj hi (H := (w.setCell ⟨b, j, none⟩ v).heap) (by simp [World.setCell]) ?_ ?_
  · simp [World.setCell, Array.getElem?_modify, hg]
  · intro k hk
    simp only [World.setCell, Array.getElem?_modify]
    rw [if_neg (by omega)]
/-- Some of what is known. -/
theorem Tri.pick {w0 : World} {I : Ix} {w : World} {L L' : HL} (h : Tri w0 I w L) (hm : ∀ p ∈ L', p ∈ L) (hn : (ids L').Nodup) : Tri w0 I w L' :=
  { toAgree := h.toAgree, at_ := fun n o hp => h.at_ n o (hm _ hp), own := fun n hn => by obtain ⟨o, ho⟩ := mem_ids.1 hn; exact h.own n (mem_ids.2 ⟨o, hm _ ho⟩), nodup := hn, hol := h.hol,
    facts := fun φ hφ => (h.facts φ (hm _ hφ)).mono (fun x hx _ => by
      rcases List.mem_append.1 hx with hx | hx
      · exact List.mem_append_left _ hx
      · obtain ⟨o, ho⟩ := mem_ids.1 hx; exact List.mem_append_right _ (mem_ids.2 ⟨o, hm _ ho⟩)) }
/-- One fact more. -/
theorem Tri.know {w0 : World} {I : Ix} {w : World} {L : HL} (h : Tri w0 I w L) {φ : World → Prop} (hφ : Stab (I.holes ++ ids L) w φ) : Tri w0 I w (.f φ :: L) := by
  have hids : ids (.f φ :: L) = ids L := ids_f _ _
  refine { toAgree := h.toAgree, at_ := fun n o hp => ?_, own := by rw [hids]; exact h.own, nodup := by rw [hids]; exact h.nodup, hol := h.hol, facts := fun ψ hψ => ?_ }
  · rcases List.mem_cons.1 hp with hp | hp
    · cases hp
    · exact h.at_ n o hp
  · rw [hids]
    rcases List.mem_cons.1 hψ with hψ | hψ
    · injection hψ with e; subst e; exact hφ
    · exact h.facts ψ hψ
/-- Ours no more: a block that nobody turns again. -/
theorem Tri.give {w0 : World} {I : Ix} {w : World} {L : HL} {b : Nat} {o : Obj} (h : Tri w0 I w (.b b o :: L)) (hb : b ∉ I.own) : Tri w0 I w (.f (fun w' => w'.heap[b]? = some o) :: L) := by
  have hids : ids (.b b o :: L) = b :: ids L := by simp [ids, Ent.id?]
  have hn := h.nodup
  rw [hids, List.nodup_cons] at hn
  have h1 := h.pick (L' := L) (fun p hp => List.mem_cons_of_mem _ hp) hn.2
  have hget : w.heap[b]? = some o := h.at_ b o List.mem_cons_self
  have hlt := (Array.getElem?_eq_some_iff.1 hget).1
  refine h1.know (fun w' ha => ?_)
  refine (ha.frame b hlt (fun hm => ?_)).trans hget
  rcases List.mem_append.1 hm with hm | hm
  · rcases h.own b (by rw [hids]; exact List.mem_cons_self) with h2 | h2
    · exact hb h2
    · have := (h.hol b hm).1; omega
  · exact hn.1 hm
theorem Tri.here {w0 : World} {I : Ix} {w : World} {L L1 L2 : HL} (h : Tri w0 I w L) (h12 : ∀ p ∈ L1 ++ L2, p ∈ L) (hn : (ids (L1 ++ L2)).Nodup) : Tri w ⟨ids L1, I.holes ++ ids L2⟩ w L1 := by
  rw [ids_app, List.nodup_append] at hn
  have hsub : ∀ n ∈ ids L1 ++ ids L2, n ∈ ids L := by
    intro n hn
    rw [← ids_app] at hn
    obtain ⟨o, ho⟩ := mem_ids.1 hn
    exact mem_ids.2 ⟨o, h12 _ ho⟩
  refine { toAgree := Agree.refl _ _, at_ := fun n o hp => h.at_ n o (h12 _ (List.mem_append_left _ hp)), own := fun n hn => .inl hn, nodup := hn.1, facts := fun φ hφ => ?_, hol := fun n hm => ?_ }
  · refine (h.facts φ (h12 _ (List.mem_append_left _ hφ))).mono (fun x hx _ => ?_)
    simp only [List.mem_append] at hx ⊢
    rcases hx with (hx | hx) | hx
    · exact .inl hx
    · exact .inr (hsub x (List.mem_append_right _ hx))
    · exact .inr (hsub x (List.mem_append_left _ hx))
  · rcases List.mem_append.1 hm with hm | hm
    · have h1 := h.hol n hm
      refine ⟨Nat.lt_of_lt_of_le h1.1 h.size, fun h2 => ?_⟩
      rcases h.own n (hsub n (List.mem_append_left _ h2)) with h3 | h3
      · exact h1.2 h3
      · omega
    · exact ⟨h.lt (hsub n (List.mem_append_right _ hm)), fun h2 => hn.2.2 n h2 n hm rfl⟩
/-- A callee's way, within a caller's. -/
theorem Tri.trans {w0 : World} {I : Ix} {w w' : World} {L L1 L2 L1' : HL} (h : Tri w0 I w L) (h12 : ∀ p ∈ L1 ++ L2, p ∈ L) (hn : (ids (L1 ++ L2)).Nodup) (h' : Tri w ⟨ids L1, I.holes ++ ids L2⟩ w' L1') : Tri w0 I w' (L1' ++ L2) := by
  rw [ids_app, List.nodup_append] at hn
  have hsub : ∀ n ∈ ids L1 ++ ids L2, n ∈ ids L := by
    intro n hn
    rw [← ids_app] at hn
    obtain ⟨o, ho⟩ := mem_ids.1 hn
    exact mem_ids.2 ⟨o, h12 _ ho⟩
  have hA : Agree (ids L1) w w' := h'.toAgree
  refine { os := h'.os.trans h.os, tape := h'.tape.trans h.tape, output := h'.output.trans h.output, size := Nat.le_trans h.size h'.size, frame := fun b hb hI => ?_, at_ := fun n o hp => ?_, own := fun n hm => ?_, nodup := ?_, facts := fun φ hφ => ?_, hol := h.hol }
  · have hb1 : b ∉ ids L1 := by
      intro hm
      rcases h.own b (hsub b (List.mem_append_left _ hm)) with h1 | h1
      · exact hI h1
      · omega
    have := h.size
    rw [h'.frame b (by omega) hb1]
    exact h.frame b hb hI
  · rcases List.mem_append.1 hp with hp | hp
    · exact h'.at_ n o hp
    · have h2 : n ∈ ids L2 := mem_ids.2 ⟨o, hp⟩
      rw [h'.frame n (h.lt (hsub n (List.mem_append_right _ h2))) (fun h1 => hn.2.2 n h1 n h2 rfl)]
      exact h.at_ n o (h12 _ (List.mem_append_right _ hp))
  · rw [ids_app] at hm
    rcases List.mem_append.1 hm with hm | hm
    · rcases h'.own n hm with h1 | h1
      · exact h.own n (hsub n (List.mem_append_left _ h1))
      · have := h.size
        exact .inr (by omega)
    · exact h.own n (hsub n (List.mem_append_right _ hm))
  · rw [ids_app, List.nodup_append]
    refine ⟨h'.nodup, hn.2.1, fun x hx y hy e => ?_⟩
    subst e
    rcases h'.own x hx with h1 | h1
    · exact hn.2.2 x h1 x hy rfl
    · have := h.lt (hsub x (List.mem_append_right _ hy))
      omega
  · rcases List.mem_append.1 hφ with hφ | hφ
    · refine (h'.facts φ hφ).mono (fun x hx _ => ?_)
      rw [ids_app] at hx
      simp only [List.mem_append] at hx ⊢
      rcases hx with hx | hx | hx
      · exact .inl (.inl hx)
      · exact .inr hx
      · exact .inl (.inr hx)
    · refine (h.facts φ (h12 _ (List.mem_append_right _ hφ))).on (hA.mono (fun x hx _ => List.mem_append_right _ (hsub x (List.mem_append_left _ hx)))) (fun x hx hlt => ?_)
      rw [ids_app] at hx
      simp only [List.mem_append] at hx ⊢
      rcases hx with hx | hx | hx
      · exact .inl hx
      · rcases h'.own x hx with h1 | h1
        · exact .inr (hsub x (List.mem_append_left _ h1))
        · omega
      · exact .inr (hsub x (List.mem_append_right _ hx))
theorem Tri.of_below {w0 : World} {I : Ix} {w w' : World} {L : HL} (h : Tri w0 I w L) (hb : Below w.heap.size w w') : Tri w0 I w' L := by
  refine { os := hb.os.trans h.os, tape := hb.tape.trans h.tape, output := hb.output.trans h.output, size := Nat.le_trans h.size hb.size, frame := fun b hb' hI => ?_, at_ := fun n o hp => ?_, own := h.own, nodup := h.nodup, hol := h.hol, facts := fun φ hφ => (h.facts φ hφ).on (Agree.of_below hb) (fun x hx _ => hx) }
  · have := h.size
    rw [hb.block b (by omega)]
    exact h.frame b hb' hI
  · rw [hb.block n (h.lt (mem_ids.2 ⟨o, hp⟩))]
    exact h.at_ n o hp
theorem Tri.below {w0 w : World} {H : List Nat} {L : HL} (h : Tri w0 ⟨[], H⟩ w L) : Below w0.heap.size w0 w :=
  ⟨h.os, h.tape, h.output, h.size, fun k hk => h.frame k hk (by simp)⟩
theorem Tri.nil (w : World) : Tri w ⟨[], []⟩ w [] :=
  { toAgree := Agree.refl _ _, at_ := fun _ _ h => (by cases h), own := fun _ h => (by cases h), nodup := by simp [ids], facts := fun _ h => (by cases h), hol := fun _ h => (by cases h) }

/-! ### Code, by its parts -/
def cA : Code → Code
  | .seq a _ => a | .cond _ a _ => a | .block _ b => b | .loop b => b | .rangeFunc _ _ _ b => b | .scope b => b | c => c
def cB : Code → Code
  | .seq _ b => b | .cond _ _ b => b | .rangeFunc _ _ a _ => a | c => c
def cK : Code → Nat
  | .seq .. => 1 | .cond .. => 2 | .block .. => 3 | .loop .. => 4 | .rangeFunc .. => 5 | .region _ _ false => 6 | .region _ _ true => 7 | .exit _ => 8 | .ret => 9 | .skip => 10 | .scope _ => 11 | .label _ => 12 | .goto _ => 13 | .refuse _ => 14
def cOps : Code → Array Oper
  | .region _ ops _ => ops
  | _ => #[]
def cId : Code → Nat
  | .region i _ _ => i | .block i _ => i | .exit i => i | _ => 0
def cC : Code → Operand
  | .cond c _ _ => c
  | _ => .const undef
def bodyOf (f : Func) : Code := f.body.getD .skip
/-- No panic, and no way out of memory, fits. -/
def NP (Q : Exit → Act → World → Prop) : Prop := (∀ c a w, ¬ Q (.panic c) a w) ∧ ∀ a w, ¬ Q .outgrown a w
def noDefer (ops : Array Oper) : Bool := ops.toList.all fun o => match o.op with | .defer _ => false | _ => true
/-- A way of saying what code does: of a function's body, or of a loop's round over a function. -/
structure Flav (P : Program) (W : Code → (Exit → Act → World → Prop) → Act → World → Prop) : Prop where
  seq : ∀ {x y Q a w}, W x (Exit.then (W y Q) Q) a w → W (.seq x y) Q a w
  cond : ∀ {c x y Q a w} {t : Bool}, a.eval c = .bool t → (t = true → W x Q a w) → (t = false → W y Q a w) → W (.cond c x y) Q a w
  block : ∀ {i x Q a w}, W x (Exit.inBlock i Q) a w → W (.block i x) Q a w
  skip : ∀ {Q : Exit → Act → World → Prop} {a w}, Q .normal a w → W .skip Q a w
  ret : ∀ {Q : Exit → Act → World → Prop} {a w}, Q .ret a w → W .ret Q a w
  exit : ∀ {Q : Exit → Act → World → Prop} {a w i}, Q (.exit i) a w → W (.exit i) Q a w
  ord : ∀ {i ops Q a w}, NP Q → noDefer ops = true → wpOps P ops Q (List.range ops.size) a w → W (.region i ops false) Q a w
  any : ∀ {i ops Q a w}, NP Q → noDefer ops = true → P.follows .mixedOrders = true → wpAny P .any ops Q ops.size (Array.replicate ops.size false) a { w with drawn := w.drawn + 1 } → W (.region i ops true) Q a w
  loop : ∀ {c Q a w} (J : Nat → Act → World → Prop) (n₀ : Nat), J n₀ a w → (∀ n a w, J n a w → W c (Exit.then (fun a' w' => ∃ k, k < n ∧ J k a' w') Q) a w) → W (.loop c) Q a w
theorem flav_plain (P : Program) : Flav P (Code.wp P) where
  seq := wp_seq
  cond := wp_cond_split
  block := wp_block
  skip := wp_skip
  ret := wp_ret
  exit := wp_exit
  ord := fun _ _ h => wp_region h
  any := fun _ _ hm h => wp_region_any hm h
  loop := fun J n₀ h0 h => wp_loop_ghost J n₀ h0 h
section
variable (P : Program) (W : Code → (Exit → Act → World → Prop) → Act → World → Prop) (n : Sz) (w0 : World) (I : Ix)
def CW (c : Code) (Q : Exit → Act → World → Prop) (F : FL) (L : HL) : Prop := Flav P W → NP Q → ∀ a w, Fr n a F → Tri w0 I w L → W c Q a w
def QW (e : Exit) (Q : Exit → Act → World → Prop) (F : FL) (L : HL) : Prop := Flav P W → NP Q → ∀ a w, Fr n a F → Tri w0 I w L → Q e a w
/-- An operation's value, in every world that has these blocks. -/
def OpV (o : Oper) (F : FL) (L : HL) (v : Value) : Prop := ∀ a w, Fr n a F → WS w0 I w L → (execOp a.eval o).run P w = .ok (.value v) w
/-- What an operation makes of frame and blocks. -/
def OpE (o : Oper) (F : FL) (L : HL) (C : (FL → HL → Prop) → Prop) : Prop :=
  ∀ X : FL → HL → Prop, C X → ∀ a w, Fr n a F → Tri w0 I w L → ∀ (K : Act → World → Prop) (Q : Exit → Act → World → Prop), NP Q → (∀ F' L', X F' L' → ∀ a' w', Fr n a' F' → Tri w0 I w' L' → K a' w') → o.wp P a w K Q
/-- Operations from number i on, in order. -/
def SW (ops : Array Oper) (Q : Exit → Act → World → Prop) (l : List Nat) (F : FL) (L : HL) : Prop := Flav P W → NP Q → ∀ a w, Fr n a F → Tri w0 I w L → wpOps P ops Q l a w
/-- Operations in whatever order; S: what all of them leave. -/
def AW (ops : Array Oper) (Q : Exit → Act → World → Prop) (S : HL) (fuel : Nat) (listed : Array Bool) (F : FL) (L : HL) : Prop :=
  Flav P W → NP Q → ∀ a w, Fr n a F → Tri w0 I w L → WS w0 I w S → wpAnyH P .any ops Q (fun w => WS w0 I w S) fuel listed a w
end
section
variable {P : Program} {W : Code → (Exit → Act → World → Prop) → Act → World → Prop} {n : Sz} {w0 : World} {I : Ix} {Q : Exit → Act → World → Prop} {F : FL} {L : HL} {c : Code}
theorem code_seq (h : cK c = 1) : c = .seq (cA c) (cB c) := by cases c <;> first | (simp [cK] at h; done) | rfl | (rename_i d; cases d <;> first | rfl | (simp [cK] at h; done))
theorem np_then {K : Act → World → Prop} (h : NP Q) : NP (Exit.then K Q) := ⟨fun c a w hq => h.1 c a w hq, fun a w hq => h.2 a w hq⟩
theorem np_of_then {K : Act → World → Prop} (h : NP (Exit.then K Q)) : NP Q := ⟨fun c a w hq => h.1 c a w hq, fun a w hq => h.2 a w hq⟩
theorem np_of_block {id : Nat} (h : NP (Exit.inBlock id Q)) : NP Q := ⟨fun c a w hq => h.1 c a w hq, fun a w hq => h.2 a w hq⟩
theorem np_block {id : Nat} (h : NP Q) : NP (Exit.inBlock id Q) := ⟨fun c a w hq => h.1 c a w hq, fun a w hq => h.2 a w hq⟩
theorem c_seq (h : cK c = 1) (k : CW P W n w0 I (cA c) (Exit.then (fun a w => W (cB c) Q a w) Q) F L) : CW P W n w0 I c Q F L := by
  intro fl np a w hf ht
  rw [code_seq h]
  exact fl.seq (k fl (np_then np) a w hf ht)
/-- Behind the first part. -/
theorem q_seq {d : Code} (k : CW P W n w0 I d Q F L) : QW P W n w0 I .normal (Exit.then (fun a w => W d Q a w) Q) F L := by
  intro fl np a w hf ht
  exact k fl (np_of_then np) a w hf ht
theorem q_then_ret {K : Act → World → Prop} (k : QW P W n w0 I .ret Q F L) : QW P W n w0 I .ret (Exit.then K Q) F L := fun fl np a w hf ht => k fl (np_of_then np) a w hf ht
theorem q_then_exit {K : Act → World → Prop} {i : Nat} (k : QW P W n w0 I (.exit i) Q F L) : QW P W n w0 I (.exit i) (Exit.then K Q) F L := fun fl np a w hf ht => k fl (np_of_then np) a w hf ht
theorem q_block {i : Nat} (k : QW P W n w0 I .normal Q F L) : QW P W n w0 I .normal (Exit.inBlock i Q) F L := fun fl np a w hf ht => k fl (np_of_block np) a w hf ht
theorem q_block_ret {i : Nat} (k : QW P W n w0 I .ret Q F L) : QW P W n w0 I .ret (Exit.inBlock i Q) F L := fun fl np a w hf ht => k fl (np_of_block np) a w hf ht
theorem q_block_here {i j : Nat} (h : Nat.beq j i = true) (k : QW P W n w0 I .normal Q F L) : QW P W n w0 I (.exit j) (Exit.inBlock i Q) F L := by
  intro fl np a w hf ht
  obtain rfl := beq_spec.1 h
  simp only [Exit.inBlock, if_true]
  exact k fl (np_of_block np) a w hf ht
theorem q_block_on {i j : Nat} (h : Nat.beq j i = false) (k : QW P W n w0 I (.exit j) Q F L) : QW P W n w0 I (.exit j) (Exit.inBlock i Q) F L := by
  intro fl np a w hf ht
  have hne : j ≠ i := fun e => by rw [beq_spec.2 e] at h; cases h
  simp only [Exit.inBlock, hne, if_false]
  exact k fl (np_of_block np) a w hf ht
theorem c_block (h : cK c = 3) (k : CW P W n w0 I (cA c) (Exit.inBlock (cId c) Q) F L) : CW P W n w0 I c Q F L := by
  intro fl np a w hf ht
  have : c = .block (cId c) (cA c) := by cases c <;> first | (simp [cK] at h; done) | rfl | (rename_i d; cases d <;> first | rfl | (simp [cK] at h; done))
  rw [this]
  exact fl.block (k fl (np_block np) a w hf ht)
theorem c_skip (h : cK c = 10) (k : QW P W n w0 I .normal Q F L) : CW P W n w0 I c Q F L := by
  intro fl np a w hf ht
  have : c = .skip := by cases c <;> first | (simp [cK] at h; done) | rfl | (rename_i d; cases d <;> first | rfl | (simp [cK] at h; done))
  rw [this]
  exact fl.skip (k fl np a w hf ht)
theorem c_ret (h : cK c = 9) (k : QW P W n w0 I .ret Q F L) : CW P W n w0 I c Q F L := by
  intro fl np a w hf ht
  have : c = .ret := by cases c <;> first | (simp [cK] at h; done) | rfl | (rename_i d; cases d <;> first | rfl | (simp [cK] at h; done))
  rw [this]
  exact fl.ret (k fl np a w hf ht)
theorem c_exit {i : Nat} (h : cK c = 8) (hi : cId c = i) (k : QW P W n w0 I (.exit i) Q F L) : CW P W n w0 I c Q F L := by
  intro fl np a w hf ht
  subst hi
  have : c = .exit (cId c) := by cases c <;> first | (simp [cK] at h; done) | rfl | (rename_i d; cases d <;> first | rfl | (simp [cK] at h; done))
  rw [this]
  exact fl.exit (k fl np a w hf ht)
theorem code_cond (h : cK c = 2) : c = .cond (cC c) (cA c) (cB c) := by cases c <;> first | (simp [cK] at h; done) | rfl | (rename_i d; cases d <;> first | rfl | (simp [cK] at h; done))
theorem c_cond {t : Bool} (h : cK c = 2) (hc : ev F (cC c) = some (.bool t)) (h1 : t = true → CW P W n w0 I (cA c) Q F L) (h0 : t = false → CW P W n w0 I (cB c) Q F L) : CW P W n w0 I c Q F L := by
  intro fl np a w hf ht
  rw [code_cond h]
  exact fl.cond (hf.ev hc) (fun e => h1 e fl np a w hf ht) (fun e => h0 e fl np a w hf ht)
theorem c_cond1 (h : cK c = 2) (hc : ev F (cC c) = some (.bool true)) (h1 : CW P W n w0 I (cA c) Q F L) : CW P W n w0 I c Q F L :=
  c_cond h hc (fun _ => h1) (fun e => by cases e)
theorem c_cond0 (h : cK c = 2) (hc : ev F (cC c) = some (.bool false)) (h0 : CW P W n w0 I (cB c) Q F L) : CW P W n w0 I c Q F L :=
  c_cond h hc (fun e => by cases e) (fun _ => h0)
/-- What is known of a frame and of the blocks, said otherwise. -/
theorem c_frame {F' : FL} (hs : ∀ j v, look F' j = some v → look F j = some v) (k : CW P W n w0 I c Q F' L) : CW P W n w0 I c Q F L :=
  fun fl np a w hf ht => k fl np a w (hf.sub hs) ht
theorem q_frame {e : Exit} {F' : FL} (hs : ∀ j v, look F' j = some v → look F j = some v) (k : QW P W n w0 I e Q F' L) : QW P W n w0 I e Q F L :=
  fun fl np a w hf ht => k fl np a w (hf.sub hs) ht
theorem c_pick {L' : HL} (hm : ∀ p ∈ L', p ∈ L) (hn : (ids L).Nodup → (ids L').Nodup) (k : CW P W n w0 I c Q F L') : CW P W n w0 I c Q F L :=
  fun fl np a w hf ht => k fl np a w hf (ht.pick hm (hn ht.nodup))
theorem q_pick {e : Exit} {L' : HL} (hm : ∀ p ∈ L', p ∈ L) (hn : (ids L).Nodup → (ids L').Nodup) (k : QW P W n w0 I e Q F L') : QW P W n w0 I e Q F L :=
  fun fl np a w hf ht => k fl np a w hf (ht.pick hm (hn ht.nodup))
/-- A fact on the world at hand, out of its blocks. -/
theorem c_nodup (k : (ids L).Nodup → CW P W n w0 I c Q F L) : CW P W n w0 I c Q F L := fun fl np a w hf ht => k ht.nodup fl np a w hf ht
/-! regions -/
theorem r_ord {l : List Nat} (h : cK c = 6) (hnd : noDefer (cOps c) = true) (hl : List.range (cOps c).size = l) (k : SW P W n w0 I (cOps c) Q l F L) : CW P W n w0 I c Q F L := by
  intro fl np a w hf ht
  have : c = .region (cId c) (cOps c) false := by cases c <;> first | (simp [cK] at h; done) | rfl | (rename_i d; cases d <;> first | rfl | (simp [cK] at h; done))
  rw [this]
  refine fl.ord np hnd ?_
  show wpOps P (cOps c) Q (List.range (cOps c).size) a w
  rw [hl]
  exact k fl np a w hf ht
theorem s_end {ops : Array Oper} (k : QW P W n w0 I .normal Q F L) : SW P W n w0 I ops Q [] F L := fun fl np a w hf ht => k fl np a w hf ht
theorem s_v {ops : Array Oper} {i d : Nat} {l : List Nat} {o : Oper} {v : Value} (ho : ops[i]? = some o) (hg : o.guard = none) (hd : o.dst = some d) (hn : Nat.blt d n.n = true) (h : OpV P n w0 I o F L v) (k : SW P W n w0 I ops Q l ((d, v) :: F) L) : SW P W n w0 I ops Q (i :: l) F L := by
  intro fl np a w hf ht
  simp only [wpOps, ho]
  rw [if_pos (by simp [Region.wanted, hg])]
  refine .inl ?_
  unfold Oper.wp
  rw [h a w hf ht.toWS, Oper.upon_value, hd]
  exact k fl np _ _ (hf.put (blt_lt hn) v) ht
theorem s_v0 {ops : Array Oper} {i : Nat} {l : List Nat} {o : Oper} {v : Value} (ho : ops[i]? = some o) (hg : o.guard = none) (hd : o.dst = none) (h : OpV P n w0 I o F L v) (k : SW P W n w0 I ops Q l F L) : SW P W n w0 I ops Q (i :: l) F L := by
  intro fl np a w hf ht
  simp only [wpOps, ho]
  rw [if_pos (by simp [Region.wanted, hg])]
  refine .inl ?_
  unfold Oper.wp
  rw [h a w hf ht.toWS, Oper.upon_value, hd]
  exact k fl np _ _ hf ht
theorem s_e {ops : Array Oper} {i : Nat} {l : List Nat} {o : Oper} {C : (FL → HL → Prop) → Prop} (ho : ops[i]? = some o) (hg : o.guard = none) (h : OpE P n w0 I o F L C) (k : C (fun F' L' => SW P W n w0 I ops Q l F' L')) : SW P W n w0 I ops Q (i :: l) F L := by
  intro fl np a w hf ht
  simp only [wpOps, ho]
  rw [if_pos (by simp [Region.wanted, hg])]
  exact .inl (h _ k a w hf ht _ _ np (fun F' L' hx a' w' hf' ht' => hx fl np a' w' hf' ht'))
/-- A guard. -/
def gd (ops : Array Oper) (F : FL) (o : Oper) : Option Bool :=
  match o.guard with
  | none => some true
  | some (j, want) => match (ops[j]?).bind (·.dst) with
    | some t => match look F t with
      | some (.bool b) => some (b == want)
      | some (.tuple _) => some false
      | _ => none
    | none => none
theorem gd_wanted {ops : Array Oper} {o : Oper} {a : Act} {b : Bool} (hf : Fr n a F) (h : gd ops F o = some b) : Region.wanted o (yielded ops a.tmps) = b := by
  unfold gd at h
  unfold Region.wanted
  cases hg : o.guard with
  | none => rw [hg] at h; exact Option.some.inj h
  | some jw =>
    obtain ⟨j, want⟩ := jw
    rw [hg] at h
    dsimp only at h
    cases ht : (ops[j]?).bind (·.dst) with
    | none => rw [ht] at h; cases h
    | some t =>
      rw [ht] at h
      dsimp only at h
      cases hl : look F t with
      | none => rw [hl] at h; cases h
      | some u =>
        rw [hl] at h
        cases u <;> first | (cases h; done) | skip
        case tuple x =>
          have hx := hf.at_ t _ hl
          have := Option.some.inj h
          subst this
          have hy : yielded ops a.tmps j = none := by
            simp only [yielded, ht, Option.bind_some]
            rw [Array.getD_eq_getD_getElem?] at hx
            cases hh : a.tmps[t]? with
            | none => rfl
            | some y => rw [hh] at hx; simp at hx; rw [hx]
          show (yielded ops a.tmps j == some want) = false
          rw [hy]
          cases want <;> rfl
        rename_i x
        have hx := hf.at_ t _ hl
        have hlt : a.tmps[t]? = some (.bool x) := by
          rw [Array.getD_eq_getD_getElem?] at hx
          cases hh : a.tmps[t]? with
          | none => rw [hh] at hx; simp [undef] at hx
          | some y => rw [hh] at hx; simp at hx; rw [hx]
        simp only [yielded, ht, Option.bind_some, hlt]
        have := Option.some.inj h
        rw [← this]
        cases x <;> cases want <;> rfl
theorem s_vg {ops : Array Oper} {i d : Nat} {l : List Nat} {o : Oper} {v : Value} (ho : ops[i]? = some o) (hg : gd ops F o = some true) (hd : o.dst = some d) (hn : Nat.blt d n.n = true) (h : OpV P n w0 I o F L v) (k : SW P W n w0 I ops Q l ((d, v) :: F) L) : SW P W n w0 I ops Q (i :: l) F L := by
  intro fl np a w hf ht
  simp only [wpOps, ho]
  rw [if_pos (gd_wanted hf hg)]
  refine .inl ?_
  unfold Oper.wp
  rw [h a w hf ht.toWS, Oper.upon_value, hd]
  exact k fl np _ _ (hf.put (blt_lt hn) v) ht
theorem s_eg {ops : Array Oper} {i : Nat} {l : List Nat} {o : Oper} {C : (FL → HL → Prop) → Prop} (ho : ops[i]? = some o) (hg : gd ops F o = some true) (h : OpE P n w0 I o F L C) (k : C (fun F' L' => SW P W n w0 I ops Q l F' L')) : SW P W n w0 I ops Q (i :: l) F L := by
  intro fl np a w hf ht
  simp only [wpOps, ho]
  rw [if_pos (gd_wanted hf hg)]
  exact .inl (h _ k a w hf ht _ _ np (fun F' L' hx a' w' hf' ht' => hx fl np a' w' hf' ht'))
theorem s_no {ops : Array Oper} {i d : Nat} {l : List Nat} {o : Oper} (ho : ops[i]? = some o) (hg : gd ops F o = some false) (hd : o.dst = some d) (hn : Nat.blt d n.n = true) (k : SW P W n w0 I ops Q l ((d, undef) :: F) L) : SW P W n w0 I ops Q (i :: l) F L := by
  intro fl np a w hf ht
  simp only [wpOps, ho]
  rw [if_neg (by rw [gd_wanted hf hg]; decide), hd]
  exact k fl np _ _ (hf.put (blt_lt hn) _) ht
theorem s_no0 {ops : Array Oper} {i : Nat} {l : List Nat} {o : Oper} (ho : ops[i]? = some o) (hg : gd ops F o = some false) (hd : o.dst = none) (k : SW P W n w0 I ops Q l F L) : SW P W n w0 I ops Q (i :: l) F L := by
  intro fl np a w hf ht
  simp only [wpOps, ho]
  rw [if_neg (by rw [gd_wanted hf hg]; decide), hd]
  exact k fl np _ _ hf ht
/-- A test that hangs on a value in a frame: both ways. -/
theorem s_split {ops : Array Oper} {l : List Nat} (t : Bool) (h1 : t = true → SW P W n w0 I ops Q l F L) (h0 : t = false → SW P W n w0 I ops Q l F L) : SW P W n w0 I ops Q l F L := by
  cases t
  · exact h0 rfl
  · exact h1 rfl
/-- The same, and the slot is known then. -/
theorem s_splitv {ops : Array Oper} {l : List Nat} {d : Nat} {t : Bool} (hl : look F d = some (.bool t)) (h1 : t = true → SW P W n w0 I ops Q l ((d, .bool true) :: F) L) (h0 : t = false → SW P W n w0 I ops Q l ((d, .bool false) :: F) L) : SW P W n w0 I ops Q l F L := by
  intro fl np a w hf ht
  cases t with
  | false => exact h0 rfl fl np a w (hf.sub (sub_cons hl (fun _ _ h => h))) ht
  | true => exact h1 rfl fl np a w (hf.sub (sub_cons hl (fun _ _ h => h))) ht
/-! regions in whatever order -/
theorem WS.sub {w : World} {S : HL} (h : Tri w0 I w L) (hs : ∀ p ∈ S, p ∈ L) : WS w0 I w S :=
  { toAgree := h.toAgree, at_ := fun n o hp => h.at_ n o (hs _ hp), fact := fun φ hφ => (h.facts φ (hs _ hφ)).here }
theorem r_any (S : HL) (hm : P.follows .mixedOrders = true) (h : cK c = 7) (hnd : noDefer (cOps c) = true) (hs : ∀ p ∈ S, p ∈ L) (k : AW P W n w0 I (cOps c) Q S (cOps c).size (Array.replicate (cOps c).size false) F L) : CW P W n w0 I c Q F L := by
  intro fl np a w hf ht
  have : c = .region (cId c) (cOps c) true := by cases c <;> first | (simp [cK] at h; done) | rfl | (rename_i d; cases d <;> first | rfl | (simp [cK] at h; done))
  rw [this]
  refine fl.any np hnd hm (wpAny_of_held (S := fun w => WS w0 I w S) _ _ _ _ ?_)
  exact k fl np a _ hf ht.drew (WS.sub ht.drew hs)
theorem a_end {ops : Array Oper} {S : HL} {fuel : Nat} {listed : Array Bool} (hr : Region.ready .any ops listed = []) (k : QW P W n w0 I .normal Q F L) : AW P W n w0 I ops Q S fuel listed F L :=
  fun fl np a w hf ht hs => wpAnyH_done hr (k fl np a w hf ht) fuel
theorem a_v {ops : Array Oper} {S : HL} {fuel : Nat} {listed : Array Bool} {d : Nat} {o : Oper} {v : Value} (i : Nat) (hi : ops[i]? = some o) (hs : Region.noSelect ops = true) (hfr : Region.free .any ops listed i = true) (hr : (Region.ready .any ops listed).contains i = true) (hg : gd ops F o = some true) (hd : o.dst = some d) (hn : Nat.blt d n.n = true)
    (h : OpV P n w0 I o F S v) (k : AW P W n w0 I ops Q S fuel (listed.setIfInBounds i true) ((d, v) :: F) L) : AW P W n w0 I ops Q S (fuel + 1) listed F L := by
  intro fl np a w hf ht hS
  refine wpAnyH_take hi hs hfr hr (fun c a w hq => absurd hq (np.1 _ _ _)) (.inl ⟨gd_wanted hf hg, fun w hw => h a w hf hw⟩) hS ?_
  rw [hd]
  exact k fl np _ _ (hf.put (blt_lt hn) v) ht hS
theorem a_v0 {ops : Array Oper} {S : HL} {fuel : Nat} {listed : Array Bool} {o : Oper} {v : Value} (i : Nat) (hi : ops[i]? = some o) (hs : Region.noSelect ops = true) (hfr : Region.free .any ops listed i = true) (hr : (Region.ready .any ops listed).contains i = true) (hg : gd ops F o = some true) (hd : o.dst = none)
    (h : OpV P n w0 I o F S v) (k : AW P W n w0 I ops Q S fuel (listed.setIfInBounds i true) F L) : AW P W n w0 I ops Q S (fuel + 1) listed F L := by
  intro fl np a w hf ht hS
  refine wpAnyH_take hi hs hfr hr (fun c a w hq => absurd hq (np.1 _ _ _)) (.inl ⟨gd_wanted hf hg, fun w hw => h a w hf hw⟩) hS ?_
  rw [hd]
  exact k fl np _ _ hf ht hS
theorem a_no {ops : Array Oper} {S : HL} {fuel : Nat} {listed : Array Bool} {d : Nat} {o : Oper} (i : Nat) (hi : ops[i]? = some o) (hs : Region.noSelect ops = true) (hfr : Region.free .any ops listed i = true) (hr : (Region.ready .any ops listed).contains i = true) (hg : gd ops F o = some false) (hd : o.dst = some d) (hn : Nat.blt d n.n = true)
    (k : AW P W n w0 I ops Q S fuel (listed.setIfInBounds i true) ((d, undef) :: F) L) : AW P W n w0 I ops Q S (fuel + 1) listed F L := by
  intro fl np a w hf ht hS
  refine wpAnyH_take hi hs hfr hr (fun c a w hq => absurd hq (np.1 _ _ _)) (.inr ⟨gd_wanted hf hg, rfl⟩) hS ?_
  rw [hd]
  exact k fl np _ _ (hf.put (blt_lt hn) _) ht hS
theorem a_no0 {ops : Array Oper} {S : HL} {fuel : Nat} {listed : Array Bool} {o : Oper} (i : Nat) (hi : ops[i]? = some o) (hs : Region.noSelect ops = true) (hfr : Region.free .any ops listed i = true) (hr : (Region.ready .any ops listed).contains i = true) (hg : gd ops F o = some false) (hd : o.dst = none)
    (k : AW P W n w0 I ops Q S fuel (listed.setIfInBounds i true) F L) : AW P W n w0 I ops Q S (fuel + 1) listed F L := by
  intro fl np a w hf ht hS
  refine wpAnyH_take hi hs hfr hr (fun c a w hq => absurd hq (np.1 _ _ _)) (.inr ⟨gd_wanted hf hg, rfl⟩) hS ?_
  rw [hd]
  exact k fl np _ _ hf ht hS
theorem a_splitv {ops : Array Oper} {S : HL} {fuel : Nat} {listed : Array Bool} {d : Nat} {t : Bool} (hl : look F d = some (.bool t)) (h1 : t = true → AW P W n w0 I ops Q S fuel listed ((d, .bool true) :: F) L) (h0 : t = false → AW P W n w0 I ops Q S fuel listed ((d, .bool false) :: F) L) : AW P W n w0 I ops Q S fuel listed F L := by
  intro fl np a w hf ht hS
  cases t with
  | false => exact h0 rfl fl np a w (hf.sub (sub_cons hl (fun _ _ h => h))) ht hS
  | true => exact h1 rfl fl np a w (hf.sub (sub_cons hl (fun _ _ h => h))) ht hS
/-- Those that may come up now, each of them. -/
def AWi (P : Program) (W : Code → (Exit → Act → World → Prop) → Act → World → Prop) (n : Sz) (w0 : World) (I : Ix) (ops : Array Oper) (Q : Exit → Act → World → Prop) (S : HL) (fuel : Nat) (listed : Array Bool) (i : Nat) (F : FL) (L : HL) : Prop :=
  Flav P W → NP Q → ∀ a w, Fr n a F → Tri w0 I w L → WS w0 I w S → wpOp P ops Q i (fun a' w' => WS w0 I w' S ∧ wpAnyH P .any ops Q (fun w => WS w0 I w S) fuel (listed.setIfInBounds i true) a' w') a w
theorem a_1 {ops : Array Oper} {S : HL} {fuel : Nat} {listed : Array Bool} {i : Nat} (hr : Region.ready .any ops listed = [i]) (k : AWi P W n w0 I ops Q S fuel listed i F L) : AW P W n w0 I ops Q S (fuel + 1) listed F L :=
  fun fl np a w hf ht hS => wpAnyH_all hr (by simp) (fun j hj => by obtain rfl := List.mem_singleton.1 hj; exact k fl np a w hf ht hS)
theorem a_2 {ops : Array Oper} {S : HL} {fuel : Nat} {listed : Array Bool} {i j : Nat} (hr : Region.ready .any ops listed = [i, j]) (k : AWi P W n w0 I ops Q S fuel listed i F L) (k' : AWi P W n w0 I ops Q S fuel listed j F L) : AW P W n w0 I ops Q S (fuel + 1) listed F L :=
  fun fl np a w hf ht hS => wpAnyH_all hr (by simp) (fun x hx => by
    simp only [List.mem_cons, List.not_mem_nil, or_false] at hx
    rcases hx with rfl | rfl
    · exact k fl np a w hf ht hS
    · exact k' fl np a w hf ht hS)
theorem a_3 {ops : Array Oper} {S : HL} {fuel : Nat} {listed : Array Bool} {i j m : Nat} (hr : Region.ready .any ops listed = [i, j, m]) (k : AWi P W n w0 I ops Q S fuel listed i F L) (k' : AWi P W n w0 I ops Q S fuel listed j F L) (k'' : AWi P W n w0 I ops Q S fuel listed m F L) : AW P W n w0 I ops Q S (fuel + 1) listed F L :=
  fun fl np a w hf ht hS => wpAnyH_all hr (by simp) (fun x hx => by
    simp only [List.mem_cons, List.not_mem_nil, or_false] at hx
    rcases hx with rfl | rfl | rfl
    · exact k fl np a w hf ht hS
    · exact k' fl np a w hf ht hS
    · exact k'' fl np a w hf ht hS)
theorem i_e {ops : Array Oper} {S : HL} {fuel : Nat} {listed : Array Bool} {i : Nat} {o : Oper} {C : (FL → HL → Prop) → Prop} (ho : ops[i]? = some o) (hg : gd ops F o = some true) (h : OpE P n w0 I o F L C) (k : C (fun F' L' => (∀ p ∈ S, p ∈ L') ∧ AW P W n w0 I ops Q S fuel (listed.setIfInBounds i true) F' L')) : AWi P W n w0 I ops Q S fuel listed i F L := by
  intro fl np a w hf ht hS
  unfold wpOp
  simp only [ho]
  rw [if_pos (gd_wanted hf hg)]
  refine .inl (h _ k a w hf ht _ _ np (fun F' L' hx a' w' hf' ht' => ?_))
  exact ⟨WS.sub ht' hx.1, hx.2 fl np a' w' hf' ht' (WS.sub ht' hx.1)⟩
theorem i_v {ops : Array Oper} {S : HL} {fuel : Nat} {listed : Array Bool} {i d : Nat} {o : Oper} {v : Value} (ho : ops[i]? = some o) (hg : gd ops F o = some true) (hd : o.dst = some d) (hn : Nat.blt d n.n = true) (h : OpV P n w0 I o F L v) (k : AW P W n w0 I ops Q S fuel (listed.setIfInBounds i true) ((d, v) :: F) L) : AWi P W n w0 I ops Q S fuel listed i F L := by
  intro fl np a w hf ht hS
  unfold wpOp
  simp only [ho]
  rw [if_pos (gd_wanted hf hg)]
  refine .inl ?_
  unfold Oper.wp
  rw [h a w hf ht.toWS, Oper.upon_value, hd]
  exact ⟨hS, k fl np _ _ (hf.put (blt_lt hn) v) ht hS⟩
theorem i_no {ops : Array Oper} {S : HL} {fuel : Nat} {listed : Array Bool} {i d : Nat} {o : Oper} (ho : ops[i]? = some o) (hg : gd ops F o = some false) (hd : o.dst = some d) (hn : Nat.blt d n.n = true) (k : AW P W n w0 I ops Q S fuel (listed.setIfInBounds i true) ((d, undef) :: F) L) : AWi P W n w0 I ops Q S fuel listed i F L := by
  intro fl np a w hf ht hS
  unfold wpOp
  simp only [ho]
  rw [if_neg (by rw [gd_wanted hf hg]; decide), hd]
  exact ⟨hS, k fl np _ _ (hf.put (blt_lt hn) _) ht hS⟩
/-! a call's contract -/
def Con (P : Program) (f : FuncId) (args : Array Value) (w : World) (H : List Nat) (L : HL) (C : (Value → HL → Prop) → Prop) : Prop :=
  Tri w ⟨ids L, H⟩ w L → ∀ X : Value → HL → Prop, C X → Calls P f args w fun e w' => ∃ v L', e = .returned v ∧ X v L' ∧ Tri w ⟨ids L, H⟩ w' L'
def enumF : Nat → List Value → FL
  | _, [] => []
  | k, v :: r => (k, v) :: enumF (k + 1) r
theorem look_enumF : ∀ (k : Nat) (vs : List Value) (j : Nat) (v : Value), look (enumF k vs) j = some v → k ≤ j ∧ vs[j - k]? = some v
  | _, [], _, _, h => by cases h
  | k, u :: r, j, v, h => by
    rw [enumF, look_cons] at h
    by_cases hj : k = j
    · subst hj
      rw [if_pos rfl] at h
      exact ⟨Nat.le_refl _, by simpa using h⟩
    · rw [if_neg hj] at h
      obtain ⟨h1, h2⟩ := look_enumF (k + 1) r j v h
      refine ⟨by omega, ?_⟩
      rw [show j - k = (j - (k + 1)) + 1 by omega, List.getElem?_cons_succ]
      exact h2
/-- The end of a body. -/
def Post (X : Value → HL → Prop) (w0 : World) (I : Ix) : Ending → World → Prop := fun e w' => ∃ v L', e = .returned v ∧ X v L' ∧ Tri w0 I w' L'
theorem con_enter {H : List Nat} {f : FuncId} {fn : Func} {args : Array Value} {C : (Value → HL → Prop) → Prop} (hf : P.funcs[f]? = some fn) (hb : fn.body = some c) {m : Nat} (hm : fn.ntmps = m) (ha : Nat.ble args.size m = true) {F0 : FL} (hF : enumF 0 args.toList = F0)
    (k : ∀ X, C X → Tri w0 ⟨ids L, H⟩ w0 L → CW P (Code.wp P) ⟨m, []⟩ w0 ⟨ids L, H⟩ c (bodyPost P fn (Post X w0 ⟨ids L, H⟩)) F0 L) : Con P f args w0 H L C := by
  intro ht X hX
  have ha' : args.size ≤ m := by simpa using Nat.le_of_ble_eq_true ha
  subst hm hF
  refine calls_of_wp hf hb (k X hX ht (flav_plain P) ⟨fun ch a w hq => ?_, fun a w hq => ?_⟩ _ _ ⟨by simp; omega, rfl, fun j v hv => ?_⟩ ht)
  · obtain ⟨_, v, L', he, _⟩ := hq
    cases he
  · obtain ⟨v, L', he, _⟩ := hq
    cases he
  · obtain ⟨_, h2⟩ := look_enumF 0 args.toList j v hv
    rw [Nat.sub_zero] at h2
    have hlt : j < args.size := by
      have := (List.getElem?_eq_some_iff.1 h2).1
      simpa using this
    show (args ++ Array.replicate (fn.ntmps - args.size) undef).getD j undef = v
    rw [Array.getD_eq_getD_getElem?, Array.getElem?_append_left hlt]
    rw [Array.getElem?_toList] at h2
    rw [h2]
    rfl
inductive RVs (F : FL) : List ResultVar → List Value → Prop where
  | nil : RVs F [] []
  | cons {t : Tmp} {r : List ResultVar} {v : Value} {vs : List Value} : look F t = some v → RVs F r vs → RVs F (.tmp t :: r) (v :: vs)
def packV (vs : List Value) : Value := match vs with | [v] => v | _ => .tuple vs.toArray
theorem results_rvs {fn : Func} {a : Act} {w : World} {rs : List ResultVar} {vs : List Value} (hr : fn.results = rs.toArray) (h : RVs F rs vs) (hf : Fr n a F) : (results fn a.tmps).run P w = .ok (packV vs) w := by
  have key : ∀ {rs : List ResultVar} {vs : List Value}, RVs F rs vs → (rs.mapM (m := Sem) fun | .tmp t => pure (a.tmps.getD t undef) | .cell x t => do loadVar t (← asAddr (a.tmps.getD x undef))).run P w = .ok vs w := by
    intro rs vs h
    induction h with
    | nil => simp
    | cons h1 _ ih => 
      simp only [List.mapM_cons, Sem.run_bind, Sem.run_pure, Result.andThen_ok, hf.at_ _ _ h1, ih]
  have k := key h
  have hm : (fn.results.mapM (m := Sem) fun | .tmp t => pure (a.tmps.getD t undef) | .cell x t => do loadVar t (← asAddr (a.tmps.getD x undef))).run P w = .ok vs.toArray w := by
    rw [hr]
    simp only [List.mapM_toArray, Sem.run_map, k, Result.andThen_ok]
  unfold results
  rw [Sem.run_bind]
  refine (congrArg (fun r => Result.andThen r _) hm).trans ?_
  simp only [Result.andThen_ok]
  match vs with
  | [] => simp [packV]
  | [v] => simp [packV]
  | u :: v :: r => simp [packV]
end
end Go.Eng
