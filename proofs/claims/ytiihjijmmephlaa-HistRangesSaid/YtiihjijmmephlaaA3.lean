/-
Own text, put together by an own program (shake.py) out of this claim's texts: what its theorem needs of them.
-/
import Derived.Test.YtiihjijmmephlaaA2
import Derived.WalkKit
import Derived.OrdersHeld
import Derived.KernelRfl
import Derived.Deep.Draws
import Derived.Deep.LoopGhost
import Derived.Laws.CopyRow
import Derived.RangeFuncNested
import Derived.RangeFuncBound
import Derived.RangeFuncCalls
import Derived.RangeFuncLeaves
import Derived.OrdersIn
import Derived.Laws.EntriesVeiled
import Derived.RangeFuncFrom
import Derived.LoopIn
import Derived.Sort.LoopGhostIn
import Derived.Maps.AppendAt
import Derived.Test.YtiihjijmmephlaaProg
import Derived.Deep.Slices
import Derived.ArgAppend
import Derived.Laws.MakeOwn
import Derived.Scope
import Derived.Control
import Derived.Shelf.Abstract
import Derived.Shelf.RegionOpen
import Derived.OwnWalkIn
import Derived.TacticsInMore
import Derived.LoopNIn
namespace Go.Eng
open Go.RowKit
set_option linter.unusedVariables false
set_option linter.unusedSimpArgs false
abbrev FL := List (Nat × Value)
def look : FL → Nat → Option Value
  | [], _ => none
  | p :: r, j => match Nat.beq p.1 j with | true => some p.2 | false => look r j
def ev (F : FL) : Operand → Option Value
  | .tmp t => look F t
  | .const v => some v
  | .global g => some (.pointer (some ⟨g, 0, none⟩))
  | .func f => some (.func (.func f) #[] #[])
def evs (F : FL) : List Operand → Option (List Value)
  | [] => some []
  | x :: r => match ev F x, evs F r with
    | some v, some vs => some (v :: vs)
    | _, _ => none
structure Sz where
  n : Nat
  ds : List Deferred := []
structure Fr (n : Sz) (a : Act) (F : FL) : Prop where
  size : a.tmps.size = n.n
  defers : a.defers = n.ds
  at_ : ∀ j v, look F j = some v → a.tmps.getD j undef = v
theorem Fr.ev {n : Sz} {a : Act} {F : FL} (h : Fr n a F) {x : Operand} {v : Value} (hv : ev F x = some v) : a.eval x = v := by
  cases x with
  | tmp t => exact h.at_ t v hv
  | const u => exact Option.some.inj hv
  | global g => exact Option.some.inj hv
  | func f => exact Option.some.inj hv
theorem Fr.evs {n : Sz} {a : Act} {F : FL} (h : Fr n a F) : ∀ {xs : List Operand} {vs : List Value}, Eng.evs F xs = some vs → xs.map a.eval = vs
  | [], vs, hv => by simp [Eng.evs] at hv; subst hv; rfl
  | x :: r, vs, hv => by
    simp only [Eng.evs] at hv
    cases h1 : Eng.ev F x with
    | none => rw [h1] at hv; simp at hv
    | some u => cases h2 : Eng.evs F r with
      | none => rw [h1, h2] at hv; simp at hv
      | some us =>
        rw [h1, h2] at hv
        have := Option.some.inj hv
        subst this
        simp [h.ev h1, h.evs h2]
theorem blt_lt {d n : Nat} (h : Nat.blt d n = true) : d < n := Nat.le_of_ble_eq_true h
theorem beq_spec {i j : Nat} : Nat.beq i j = true ↔ i = j := by
  constructor
  · exact Nat.eq_of_beq_eq_true
  · rintro rfl; exact Nat.beq_refl _
theorem look_cons (p : Nat × Value) (r : FL) (j : Nat) : look (p :: r) j = if p.1 = j then some p.2 else look r j := by
  simp only [look]
  by_cases h : p.1 = j
  · rw [if_pos h, beq_spec.2 h]
  · rw [if_neg h]
    have : Nat.beq p.1 j = false := by
      cases hb : Nat.beq p.1 j with
      | true => exact absurd (beq_spec.1 hb) h
      | false => rfl
    rw [this]
theorem Fr.put {n : Sz} {a : Act} {F : FL} (h : Fr n a F) {d : Nat} (hd : d < n.n) (v : Value) : Fr n (a.put (some d) v) ((d, v) :: F) := by
  refine ⟨by simp [Act.put, h.size], by simp [Act.put, h.defers], fun j u hu => ?_⟩
  rw [look_cons] at hu
  by_cases hj : d = j
  · subst hj
    rw [if_pos rfl] at hu
    have := Option.some.inj hu
    subst this
    simp [Act.put, h.size, hd]
  · rw [if_neg hj] at hu
    have := h.at_ j u hu
    simp only [Act.put, Array.getD_eq_getD_getElem?, Array.getElem?_setIfInBounds_ne hj] at this ⊢
    exact this
theorem Fr.sub {n : Sz} {a : Act} {F F' : FL} (h : Fr n a F) (hs : ∀ j v, look F' j = some v → look F j = some v) : Fr n a F' :=
  ⟨h.size, h.defers, fun j v hv => h.at_ j v (hs j v hv)⟩
theorem sub_cons {F F' : FL} {d : Nat} {u : Value} (h : look F d = some u) (hr : ∀ j v, look F' j = some v → look F j = some v) : ∀ j v, look ((d, u) :: F') j = some v → look F j = some v := by
  intro j v hv
  rw [look_cons] at hv
  by_cases hj : d = j
  · subst hj; rw [if_pos rfl] at hv; rw [← hv]; exact h
  · rw [if_neg hj] at hv; exact hr j v hv
inductive Ent where
  | b (n : Nat) (o : Obj)
  | f (φ : World → Prop)
abbrev HL := List Ent
def Ent.id? : Ent → Option Nat
  | .b n _ => some n
  | .f _ => none
def ids (L : HL) : List Nat := L.filterMap Ent.id?
theorem mem_ids {L : HL} {n : Nat} : n ∈ ids L ↔ ∃ o, Ent.b n o ∈ L := by
  unfold ids
  rw [List.mem_filterMap]
  constructor
  · rintro ⟨e, he, h⟩
    cases e with
    | b m o => simp [Ent.id?] at h; subst h; exact ⟨o, he⟩
    | f φ => simp [Ent.id?] at h
  · rintro ⟨o, h⟩
    exact ⟨_, h, rfl⟩
theorem ids_b (n : Nat) (o : Obj) (L : HL) : ids (.b n o :: L) = n :: ids L := List.filterMap_cons_some rfl
theorem ids_f (φ : World → Prop) (L : HL) : ids (.f φ :: L) = ids L := List.filterMap_cons_none rfl
theorem ids_app (L M : HL) : ids (L ++ M) = ids L ++ ids M := by simp [ids]
structure Ix where
  own : List Nat
  holes : List Nat
structure Agree (H : List Nat) (w w' : World) : Prop where
  os : w'.os = w.os
  tape : w'.tape = w.tape
  output : w'.output = w.output
  size : w.heap.size ≤ w'.heap.size
  frame : ∀ b, b < w.heap.size → b ∉ H → w'.heap[b]? = w.heap[b]?
theorem Agree.refl (H : List Nat) (w : World) : Agree H w w := ⟨rfl, rfl, rfl, Nat.le_refl _, fun _ _ _ => rfl⟩
theorem Agree.trans {H : List Nat} {a b c : World} (h : Agree H a b) (k : Agree H b c) : Agree H a c :=
  ⟨k.os.trans h.os, k.tape.trans h.tape, k.output.trans h.output, Nat.le_trans h.size k.size, fun x hx hn => (k.frame x (Nat.lt_of_lt_of_le hx h.size) hn).trans (h.frame x hx hn)⟩
theorem Agree.mono {H H' : List Nat} {a b : World} (h : Agree H a b) (hs : ∀ x ∈ H, x < a.heap.size → x ∈ H') : Agree H' a b :=
  ⟨h.os, h.tape, h.output, h.size, fun x hx hn => h.frame x hx (fun hm => hn (hs x hm hx))⟩
theorem Agree.below {a b : World} (h : Agree [] a b) : Below a.heap.size a b := ⟨h.os, h.tape, h.output, h.size, fun k hk => h.frame k hk (by simp)⟩
theorem Agree.of_below {H : List Nat} {a b : World} (h : Below a.heap.size a b) : Agree H a b := ⟨h.os, h.tape, h.output, h.size, fun k hk _ => h.block k hk⟩
def Stab (H : List Nat) (w : World) (φ : World → Prop) : Prop := ∀ w', Agree H w w' → φ w'
theorem Stab.here {H : List Nat} {w : World} {φ : World → Prop} (h : Stab H w φ) : φ w := h w (Agree.refl _ _)
theorem Stab.mono {H H' : List Nat} {w : World} {φ : World → Prop} (h : Stab H w φ) (hs : ∀ x ∈ H', x < w.heap.size → x ∈ H) : Stab H' w φ := fun w' ha => h w' (ha.mono hs)
theorem Stab.on {H H' : List Nat} {w w' : World} {φ : World → Prop} (h : Stab H w φ) (ha : Agree H w w') (hs : ∀ x ∈ H', x < w.heap.size → x ∈ H) : Stab H' w' φ := fun w'' ha' =>
  h w'' ⟨ha'.os.trans ha.os, ha'.tape.trans ha.tape, ha'.output.trans ha.output, Nat.le_trans ha.size ha'.size, fun b hb hn => (ha'.frame b (Nat.lt_of_lt_of_le hb ha.size) (fun hm => hn (hs b hm hb))).trans (ha.frame b hb hn)⟩
structure WS (w0 : World) (I : Ix) (w : World) (L : HL) : Prop extends Agree I.own w0 w where
  at_ : ∀ n o, Ent.b n o ∈ L → w.heap[n]? = some o
  fact : ∀ φ, Ent.f φ ∈ L → φ w
structure Tri (w0 : World) (I : Ix) (w : World) (L : HL) : Prop extends Agree I.own w0 w where
  at_ : ∀ n o, Ent.b n o ∈ L → w.heap[n]? = some o
  own : ∀ n ∈ ids L, n ∈ I.own ∨ w0.heap.size ≤ n
  nodup : (ids L).Nodup
  facts : ∀ φ, Ent.f φ ∈ L → Stab (I.holes ++ ids L) w φ
  hol : ∀ n ∈ I.holes, n < w0.heap.size ∧ n ∉ I.own
theorem Tri.toWS {w0 : World} {I : Ix} {w : World} {L : HL} (h : Tri w0 I w L) : WS w0 I w L := { toAgree := h.toAgree, at_ := h.at_, fact := fun φ hφ => (h.facts φ hφ).here }
theorem WS.get {w0 : World} {I : Ix} {w : World} {L : HL} (h : WS w0 I w L) {i b : Nat} {o : Obj} (hi : L[i]? = some (.b b o)) : w.heap[b]? = some o :=
  h.at_ _ _ (List.mem_of_getElem? hi)
theorem WS.cell {w0 : World} {I : Ix} {w : World} {L : HL} (h : WS w0 I w L) {i b : Nat} {cs : Array Value} {e : TypeId} {fz : Nat × Nat} (hi : L[i]? = some (.b b (.cells cs e fz))) (j : Nat) : w.cell? ⟨b, j, none⟩ = cs[j]? := by
  simp [World.cell?, h.get hi]
theorem WS.ext {w0 : World} {I : Ix} {w : World} {L : HL} (h : WS w0 I w L) {a : Addr} {v : Value} (hc : w0.cell? a = some v) (ha : a.block ∉ I.own) : w.cell? a = some v := by
  have hlt := World.block_lt_of_cell? w0 _ hc
  rw [World.cell?_of_block (w := w0) (h.frame _ hlt ha)]
  exact hc
theorem Tri.lt {w0 : World} {I : Ix} {w : World} {L : HL} (h : Tri w0 I w L) {n : Nat} (hn : n ∈ ids L) : n < w.heap.size := by
  obtain ⟨o, ho⟩ := mem_ids.1 hn
  exact (Array.getElem?_eq_some_iff.1 (h.at_ n o ho)).1
theorem Tri.drew {w0 : World} {I : Ix} {w : World} {L : HL} (h : Tri w0 I w L) : Tri w0 I { w with drawn := w.drawn + 1 } L :=
  { os := h.os, tape := h.tape, output := h.output, size := h.size, frame := h.frame, at_ := h.at_, own := h.own, nodup := h.nodup, hol := h.hol,
    facts := fun φ hφ => (h.facts φ hφ).on (w' := { w with drawn := w.drawn + 1 }) ⟨rfl, rfl, rfl, Nat.le_refl _, fun _ _ _ => rfl⟩ (fun x hx _ => hx) }
theorem Tri.alloc {w0 : World} {I : Ix} {w : World} {L : HL} (h : Tri w0 I w L) (o : Obj) : Tri w0 I { w with heap := w.heap.push o } (.b w.heap.size o :: L) := by
  have hids : ids (.b w.heap.size o :: L) = w.heap.size :: ids L := by simp [ids, Ent.id?]
  refine { os := h.os, tape := h.tape, output := h.output, size := by have := h.size; simp; omega, frame := fun b hb hI => ?_, at_ := fun n u hp => ?_, own := fun n hn => ?_, nodup := ?_, facts := fun φ hφ => ?_, hol := h.hol }
  · have := h.size
    show (w.heap.push o)[b]? = _
    rw [Array.getElem?_push, if_neg (by omega)]
    exact h.frame b hb hI
  · rcases List.mem_cons.1 hp with hp | hp
    · injection hp with e1 e2
      subst e1 e2
      simp
    · have := h.lt (mem_ids.2 ⟨u, hp⟩)
      show (w.heap.push o)[n]? = _
      rw [Array.getElem?_push, if_neg (by omega)]
      exact h.at_ n u hp
  · rw [hids] at hn
    rcases List.mem_cons.1 hn with rfl | hn
    · exact .inr h.size
    · exact h.own n hn
  · rw [hids, List.nodup_cons]
    exact ⟨fun hm => by have := h.lt hm; omega, h.nodup⟩
  · have hφ' : Ent.f φ ∈ L := by
      rcases List.mem_cons.1 hφ with hφ | hφ
      · cases hφ
      · exact hφ
    refine (h.facts φ hφ').on ⟨rfl, rfl, rfl, by simp, fun b hb _ => ?_⟩ ?_
    · show (w.heap.push o)[b]? = _
      rw [Array.getElem?_push, if_neg (by omega)]
    · intro x hx hlt
      rw [hids] at hx
      rcases List.mem_append.1 hx with hx | hx
      · exact List.mem_append_left _ hx
      · rcases List.mem_cons.1 hx with rfl | hx
        · omega
        · exact List.mem_append_right _ hx
theorem ids_set {L : HL} {i b : Nat} {o o' : Obj} (hi : L[i]? = some (.b b o)) : ids (L.set i (.b b o')) = ids L := by
  induction L generalizing i with
  | nil => cases hi
  | cons e r ih =>
    cases i with
    | zero =>
      simp at hi
      subst hi
      simp [ids, Ent.id?]
    | succ i =>
      have := ih (i := i) (by simpa using hi)
      unfold ids at this ⊢
      simp only [List.set_cons_succ, List.filterMap_cons, this]
theorem mem_set_other {L : HL} {i b n : Nat} {o o' u : Obj} (hn : (ids L).Nodup) (hi : L[i]? = some (.b b o)) (hm : Ent.b n u ∈ L.set i (.b b o')) : (n = b ∧ u = o') ∨ (n ≠ b ∧ Ent.b n u ∈ L) := by
  induction L generalizing i with
  | nil => cases hi
  | cons e r ih =>
    cases i with
    | zero =>
      simp at hi
      subst hi
      rw [List.set_cons_zero] at hm
      rcases List.mem_cons.1 hm with hm' | hm'
      · injection hm' with e1 e2
        exact .inl ⟨e1, e2⟩
      · refine .inr ⟨fun e => ?_, List.mem_cons_of_mem _ hm'⟩
        rw [ids_b, List.nodup_cons] at hn
        exact hn.1 (e ▸ mem_ids.2 ⟨u, hm'⟩)
    | succ i =>
      have hi' : r[i]? = some (.b b o) := by simpa using hi
      have hbr : b ∈ ids r := mem_ids.2 ⟨o, List.mem_of_getElem? hi'⟩
      rw [List.set_cons_succ] at hm
      have hnr : (ids r).Nodup := by
        cases e with
        | b m q => have : ids (.b m q :: r) = m :: ids r := by simp [ids, Ent.id?]
                   rw [this, List.nodup_cons] at hn; exact hn.2
        | f φ => have : ids (.f φ :: r) = ids r := ids_f _ _
                 rw [this] at hn; exact hn
      rcases List.mem_cons.1 hm with hm | hm
      · subst hm
        refine .inr ⟨fun e => ?_, List.mem_cons_self⟩
        subst e
        have : ids (.b n u :: r) = n :: ids r := by simp [ids, Ent.id?]
        rw [this, List.nodup_cons] at hn
        exact hn.1 hbr
      · rcases ih hnr hi' hm with h | h
        · exact .inl h
        · exact .inr ⟨h.1, List.mem_cons_of_mem _ h.2⟩
theorem mem_set_fact {L : HL} {i b : Nat} {o' : Obj} {φ : World → Prop} (hm : Ent.f φ ∈ L.set i (.b b o')) : Ent.f φ ∈ L := by
  rcases List.mem_or_eq_of_mem_set hm with h | h
  · exact h
  · cases h
theorem Tri.setObj {w0 : World} {I : Ix} {w : World} {L : HL} (h : Tri w0 I w L) {i b : Nat} {o o' : Obj} (hi : L[i]? = some (.b b o)) {H : Array Obj} (hs : H.size = w.heap.size) (hb : H[b]? = some o') (ho : ∀ k, k ≠ b → H[k]? = w.heap[k]?) :
    Tri w0 I { w with heap := H } (L.set i (.b b o')) := by
  have hm : b ∈ ids L := mem_ids.2 ⟨o, List.mem_of_getElem? hi⟩
  refine { os := h.os, tape := h.tape, output := h.output, size := by show _ ≤ H.size; rw [hs]; exact h.size, frame := fun k hk hI => ?_, at_ := fun n u hp => ?_, own := by rw [ids_set hi]; exact h.own, nodup := by rw [ids_set hi]; exact h.nodup, facts := fun φ hφ => ?_, hol := h.hol }
  · have hne : k ≠ b := by
      rintro rfl
      rcases h.own _ hm with h1 | h1
      · exact hI h1
      · omega
    show H[k]? = _
    rw [ho k hne]
    exact h.frame k hk hI
  · rcases mem_set_other h.nodup hi hp with ⟨rfl, rfl⟩ | ⟨h1, h2⟩
    · exact hb
    · show H[n]? = _
      rw [ho _ h1]
      exact h.at_ n u h2
  · refine (h.facts φ (mem_set_fact hφ)).on ⟨rfl, rfl, rfl, by show _ ≤ H.size; omega, fun k hk hn => ?_⟩ ?_
    · show H[k]? = _
      exact ho k (fun e => hn (by rw [e]; exact List.mem_append_right _ hm))
    · intro x hx _
      rw [ids_set hi] at hx
      exact hx
theorem Tri.setCell {w0 : World} {I : Ix} {w : World} {L : HL} (h : Tri w0 I w L) {i b : Nat} {cs : Array Value} {e : TypeId} {fz : Nat × Nat} (hi : L[i]? = some (.b b (.cells cs e fz))) (j : Nat) (v : Value) :
    Tri w0 I (w.setCell ⟨b, j, none⟩ v) (L.set i (.b b (.cells (cs.setIfInBounds j v) e fz))) := by
  have hg := h.toWS.get hi
  refine h.setObj hi (H := (w.setCell ⟨b, j, none⟩ v).heap) (by simp [World.setCell]) ?_ ?_
  · simp [World.setCell, Array.getElem?_modify, hg]
  · intro k hk
    simp only [World.setCell, Array.getElem?_modify]
    rw [if_neg (by omega)]
theorem Tri.pick {w0 : World} {I : Ix} {w : World} {L L' : HL} (h : Tri w0 I w L) (hm : ∀ p ∈ L', p ∈ L) (hn : (ids L').Nodup) : Tri w0 I w L' :=
  { toAgree := h.toAgree, at_ := fun n o hp => h.at_ n o (hm _ hp), own := fun n hn => by obtain ⟨o, ho⟩ := mem_ids.1 hn; exact h.own n (mem_ids.2 ⟨o, hm _ ho⟩), nodup := hn, hol := h.hol,
    facts := fun φ hφ => (h.facts φ (hm _ hφ)).mono (fun x hx _ => by
      rcases List.mem_append.1 hx with hx | hx
      · exact List.mem_append_left _ hx
      · obtain ⟨o, ho⟩ := mem_ids.1 hx; exact List.mem_append_right _ (mem_ids.2 ⟨o, hm _ ho⟩)) }
theorem Tri.know {w0 : World} {I : Ix} {w : World} {L : HL} (h : Tri w0 I w L) {φ : World → Prop} (hφ : Stab (I.holes ++ ids L) w φ) : Tri w0 I w (.f φ :: L) := by
  have hids : ids (.f φ :: L) = ids L := ids_f _ _
  refine { toAgree := h.toAgree, at_ := fun n o hp => ?_, own := by rw [hids]; exact h.own, nodup := by rw [hids]; exact h.nodup, hol := h.hol, facts := fun ψ hψ => ?_ }
  · rcases List.mem_cons.1 hp with hp | hp
    · cases hp
    · exact h.at_ n o hp
  · rw [hids]
    rcases List.mem_cons.1 hψ with hψ | hψ
    · injection hψ with e; subst e; exact hφ
    · exact h.facts ψ hψ
theorem Tri.give {w0 : World} {I : Ix} {w : World} {L : HL} {b : Nat} {o : Obj} (h : Tri w0 I w (.b b o :: L)) (hb : b ∉ I.own) : Tri w0 I w (.f (fun w' => w'.heap[b]? = some o) :: L) := by
  have hids : ids (.b b o :: L) = b :: ids L := by simp [ids, Ent.id?]
  have hn := h.nodup
  rw [hids, List.nodup_cons] at hn
  have h1 := h.pick (L' := L) (fun p hp => List.mem_cons_of_mem _ hp) hn.2
  have hget : w.heap[b]? = some o := h.at_ b o List.mem_cons_self
  have hlt := (Array.getElem?_eq_some_iff.1 hget).1
  refine h1.know (fun w' ha => ?_)
  refine (ha.frame b hlt (fun hm => ?_)).trans hget
  rcases List.mem_append.1 hm with hm | hm
  · rcases h.own b (by rw [hids]; exact List.mem_cons_self) with h2 | h2
    · exact hb h2
    · have := (h.hol b hm).1; omega
  · exact hn.1 hm
theorem Tri.here {w0 : World} {I : Ix} {w : World} {L L1 L2 : HL} (h : Tri w0 I w L) (h12 : ∀ p ∈ L1 ++ L2, p ∈ L) (hn : (ids (L1 ++ L2)).Nodup) : Tri w ⟨ids L1, I.holes ++ ids L2⟩ w L1 := by
  rw [ids_app, List.nodup_append] at hn
  have hsub : ∀ n ∈ ids L1 ++ ids L2, n ∈ ids L := by
    intro n hn
    rw [← ids_app] at hn
    obtain ⟨o, ho⟩ := mem_ids.1 hn
    exact mem_ids.2 ⟨o, h12 _ ho⟩
  refine { toAgree := Agree.refl _ _, at_ := fun n o hp => h.at_ n o (h12 _ (List.mem_append_left _ hp)), own := fun n hn => .inl hn, nodup := hn.1, facts := fun φ hφ => ?_, hol := fun n hm => ?_ }
  · refine (h.facts φ (h12 _ (List.mem_append_left _ hφ))).mono (fun x hx _ => ?_)
    simp only [List.mem_append] at hx ⊢
    rcases hx with (hx | hx) | hx
    · exact .inl hx
    · exact .inr (hsub x (List.mem_append_right _ hx))
    · exact .inr (hsub x (List.mem_append_left _ hx))
  · rcases List.mem_append.1 hm with hm | hm
    · have h1 := h.hol n hm
      refine ⟨Nat.lt_of_lt_of_le h1.1 h.size, fun h2 => ?_⟩
      rcases h.own n (hsub n (List.mem_append_left _ h2)) with h3 | h3
      · exact h1.2 h3
      · omega
    · exact ⟨h.lt (hsub n (List.mem_append_right _ hm)), fun h2 => hn.2.2 n h2 n hm rfl⟩
theorem Tri.trans {w0 : World} {I : Ix} {w w' : World} {L L1 L2 L1' : HL} (h : Tri w0 I w L) (h12 : ∀ p ∈ L1 ++ L2, p ∈ L) (hn : (ids (L1 ++ L2)).Nodup) (h' : Tri w ⟨ids L1, I.holes ++ ids L2⟩ w' L1') : Tri w0 I w' (L1' ++ L2) := by
  rw [ids_app, List.nodup_append] at hn
  have hsub : ∀ n ∈ ids L1 ++ ids L2, n ∈ ids L := by
    intro n hn
    rw [← ids_app] at hn
    obtain ⟨o, ho⟩ := mem_ids.1 hn
    exact mem_ids.2 ⟨o, h12 _ ho⟩
  have hA : Agree (ids L1) w w' := h'.toAgree
  refine { os := h'.os.trans h.os, tape := h'.tape.trans h.tape, output := h'.output.trans h.output, size := Nat.le_trans h.size h'.size, frame := fun b hb hI => ?_, at_ := fun n o hp => ?_, own := fun n hm => ?_, nodup := ?_, facts := fun φ hφ => ?_, hol := h.hol }
  · have hb1 : b ∉ ids L1 := by
      intro hm
      rcases h.own b (hsub b (List.mem_append_left _ hm)) with h1 | h1
      · exact hI h1
      · omega
    have := h.size
    rw [h'.frame b (by omega) hb1]
    exact h.frame b hb hI
  · rcases List.mem_append.1 hp with hp | hp
    · exact h'.at_ n o hp
    · have h2 : n ∈ ids L2 := mem_ids.2 ⟨o, hp⟩
      rw [h'.frame n (h.lt (hsub n (List.mem_append_right _ h2))) (fun h1 => hn.2.2 n h1 n h2 rfl)]
      exact h.at_ n o (h12 _ (List.mem_append_right _ hp))
  · rw [ids_app] at hm
    rcases List.mem_append.1 hm with hm | hm
    · rcases h'.own n hm with h1 | h1
      · exact h.own n (hsub n (List.mem_append_left _ h1))
      · have := h.size
        exact .inr (by omega)
    · exact h.own n (hsub n (List.mem_append_right _ hm))
  · rw [ids_app, List.nodup_append]
    refine ⟨h'.nodup, hn.2.1, fun x hx y hy e => ?_⟩
    subst e
    rcases h'.own x hx with h1 | h1
    · exact hn.2.2 x h1 x hy rfl
    · have := h.lt (hsub x (List.mem_append_right _ hy))
      omega
  · rcases List.mem_append.1 hφ with hφ | hφ
    · refine (h'.facts φ hφ).mono (fun x hx _ => ?_)
      rw [ids_app] at hx
      simp only [List.mem_append] at hx ⊢
      rcases hx with hx | hx | hx
      · exact .inl (.inl hx)
      · exact .inr hx
      · exact .inl (.inr hx)
    · refine (h.facts φ (h12 _ (List.mem_append_right _ hφ))).on (hA.mono (fun x hx _ => List.mem_append_right _ (hsub x (List.mem_append_left _ hx)))) (fun x hx hlt => ?_)
      rw [ids_app] at hx
      simp only [List.mem_append] at hx ⊢
      rcases hx with hx | hx | hx
      · exact .inl hx
      · rcases h'.own x hx with h1 | h1
        · exact .inr (hsub x (List.mem_append_left _ h1))
        · omega
      · exact .inr (hsub x (List.mem_append_right _ hx))
theorem Tri.of_below {w0 : World} {I : Ix} {w w' : World} {L : HL} (h : Tri w0 I w L) (hb : Below w.heap.size w w') : Tri w0 I w' L := by
  refine { os := hb.os.trans h.os, tape := hb.tape.trans h.tape, output := hb.output.trans h.output, size := Nat.le_trans h.size hb.size, frame := fun b hb' hI => ?_, at_ := fun n o hp => ?_, own := h.own, nodup := h.nodup, hol := h.hol, facts := fun φ hφ => (h.facts φ hφ).on (Agree.of_below hb) (fun x hx _ => hx) }
  · have := h.size
    rw [hb.block b (by omega)]
    exact h.frame b hb' hI
  · rw [hb.block n (h.lt (mem_ids.2 ⟨o, hp⟩))]
    exact h.at_ n o hp
theorem Tri.below {w0 w : World} {H : List Nat} {L : HL} (h : Tri w0 ⟨[], H⟩ w L) : Below w0.heap.size w0 w :=
  ⟨h.os, h.tape, h.output, h.size, fun k hk => h.frame k hk (by simp)⟩
theorem Tri.nil (w : World) : Tri w ⟨[], []⟩ w [] :=
  { toAgree := Agree.refl _ _, at_ := fun _ _ h => (by cases h), own := fun _ h => (by cases h), nodup := by simp [ids], facts := fun _ h => (by cases h), hol := fun _ h => (by cases h) }
def cA : Code → Code
  | .seq a _ => a | .cond _ a _ => a | .block _ b => b | .loop b => b | .rangeFunc _ _ _ b => b | .scope b => b | c => c
def cB : Code → Code
  | .seq _ b => b | .cond _ _ b => b | .rangeFunc _ _ a _ => a | c => c
def cK : Code → Nat
  | .seq .. => 1 | .cond .. => 2 | .block .. => 3 | .loop .. => 4 | .rangeFunc .. => 5 | .region _ _ false => 6 | .region _ _ true => 7 | .exit _ => 8 | .ret => 9 | .skip => 10 | .scope _ => 11 | .label _ => 12 | .goto _ => 13 | .refuse _ => 14
def cOps : Code → Array Oper
  | .region _ ops _ => ops
  | _ => #[]
def cId : Code → Nat
  | .region i _ _ => i | .block i _ => i | .exit i => i | _ => 0
def cC : Code → Operand
  | .cond c _ _ => c
  | _ => .const undef
def bodyOf (f : Func) : Code := f.body.getD .skip
def NP (Q : Exit → Act → World → Prop) : Prop := (∀ c a w, ¬ Q (.panic c) a w) ∧ ∀ a w, ¬ Q .outgrown a w
def noDefer (ops : Array Oper) : Bool := ops.toList.all fun o => match o.op with | .defer _ => false | _ => true
structure Flav (P : Program) (W : Code → (Exit → Act → World → Prop) → Act → World → Prop) : Prop where
  seq : ∀ {x y Q a w}, W x (Exit.then (W y Q) Q) a w → W (.seq x y) Q a w
  cond : ∀ {c x y Q a w} {t : Bool}, a.eval c = .bool t → (t = true → W x Q a w) → (t = false → W y Q a w) → W (.cond c x y) Q a w
  block : ∀ {i x Q a w}, W x (Exit.inBlock i Q) a w → W (.block i x) Q a w
  skip : ∀ {Q : Exit → Act → World → Prop} {a w}, Q .normal a w → W .skip Q a w
  ret : ∀ {Q : Exit → Act → World → Prop} {a w}, Q .ret a w → W .ret Q a w
  exit : ∀ {Q : Exit → Act → World → Prop} {a w i}, Q (.exit i) a w → W (.exit i) Q a w
  ord : ∀ {i ops Q a w}, NP Q → noDefer ops = true → wpOps P ops Q (List.range ops.size) a w → W (.region i ops false) Q a w
  any : ∀ {i ops Q a w}, NP Q → noDefer ops = true → P.follows .mixedOrders = true → wpAny P .any ops Q ops.size (Array.replicate ops.size false) a { w with drawn := w.drawn + 1 } → W (.region i ops true) Q a w
  loop : ∀ {c Q a w} (J : Nat → Act → World → Prop) (n₀ : Nat), J n₀ a w → (∀ n a w, J n a w → W c (Exit.then (fun a' w' => ∃ k, k < n ∧ J k a' w') Q) a w) → W (.loop c) Q a w
theorem flav_plain (P : Program) : Flav P (Code.wp P) where
  seq := wp_seq
  cond := wp_cond_split
  block := wp_block
  skip := wp_skip
  ret := wp_ret
  exit := wp_exit
  ord := fun _ _ h => wp_region h
  any := fun _ _ hm h => wp_region_any hm h
  loop := fun J n₀ h0 h => wp_loop_ghost J n₀ h0 h
section
variable (P : Program) (W : Code → (Exit → Act → World → Prop) → Act → World → Prop) (n : Sz) (w0 : World) (I : Ix)
def CW (c : Code) (Q : Exit → Act → World → Prop) (F : FL) (L : HL) : Prop := Flav P W → NP Q → ∀ a w, Fr n a F → Tri w0 I w L → W c Q a w
def QW (e : Exit) (Q : Exit → Act → World → Prop) (F : FL) (L : HL) : Prop := Flav P W → NP Q → ∀ a w, Fr n a F → Tri w0 I w L → Q e a w
def OpV (o : Oper) (F : FL) (L : HL) (v : Value) : Prop := ∀ a w, Fr n a F → WS w0 I w L → (execOp a.eval o).run P w = .ok (.value v) w
def OpE (o : Oper) (F : FL) (L : HL) (C : (FL → HL → Prop) → Prop) : Prop :=
  ∀ X : FL → HL → Prop, C X → ∀ a w, Fr n a F → Tri w0 I w L → ∀ (K : Act → World → Prop) (Q : Exit → Act → World → Prop), NP Q → (∀ F' L', X F' L' → ∀ a' w', Fr n a' F' → Tri w0 I w' L' → K a' w') → o.wp P a w K Q
def SW (ops : Array Oper) (Q : Exit → Act → World → Prop) (l : List Nat) (F : FL) (L : HL) : Prop := Flav P W → NP Q → ∀ a w, Fr n a F → Tri w0 I w L → wpOps P ops Q l a w
def AW (ops : Array Oper) (Q : Exit → Act → World → Prop) (S : HL) (fuel : Nat) (listed : Array Bool) (F : FL) (L : HL) : Prop :=
  Flav P W → NP Q → ∀ a w, Fr n a F → Tri w0 I w L → WS w0 I w S → wpAnyH P .any ops Q (fun w => WS w0 I w S) fuel listed a w
end
section
variable {P : Program} {W : Code → (Exit → Act → World → Prop) → Act → World → Prop} {n : Sz} {w0 : World} {I : Ix} {Q : Exit → Act → World → Prop} {F : FL} {L : HL} {c : Code}
theorem code_seq (h : cK c = 1) : c = .seq (cA c) (cB c) := by cases c <;> first | (simp [cK] at h; done) | rfl | (rename_i d; cases d <;> first | rfl | (simp [cK] at h; done))
theorem np_then {K : Act → World → Prop} (h : NP Q) : NP (Exit.then K Q) := ⟨fun c a w hq => h.1 c a w hq, fun a w hq => h.2 a w hq⟩
theorem np_of_then {K : Act → World → Prop} (h : NP (Exit.then K Q)) : NP Q := ⟨fun c a w hq => h.1 c a w hq, fun a w hq => h.2 a w hq⟩
theorem np_of_block {id : Nat} (h : NP (Exit.inBlock id Q)) : NP Q := ⟨fun c a w hq => h.1 c a w hq, fun a w hq => h.2 a w hq⟩
theorem np_block {id : Nat} (h : NP Q) : NP (Exit.inBlock id Q) := ⟨fun c a w hq => h.1 c a w hq, fun a w hq => h.2 a w hq⟩
theorem c_seq (h : cK c = 1) (k : CW P W n w0 I (cA c) (Exit.then (fun a w => W (cB c) Q a w) Q) F L) : CW P W n w0 I c Q F L := by
  intro fl np a w hf ht
  rw [code_seq h]
  exact fl.seq (k fl (np_then np) a w hf ht)
theorem q_seq {d : Code} (k : CW P W n w0 I d Q F L) : QW P W n w0 I .normal (Exit.then (fun a w => W d Q a w) Q) F L := by
  intro fl np a w hf ht
  exact k fl (np_of_then np) a w hf ht
theorem q_then_ret {K : Act → World → Prop} (k : QW P W n w0 I .ret Q F L) : QW P W n w0 I .ret (Exit.then K Q) F L := fun fl np a w hf ht => k fl (np_of_then np) a w hf ht
theorem q_then_exit {K : Act → World → Prop} {i : Nat} (k : QW P W n w0 I (.exit i) Q F L) : QW P W n w0 I (.exit i) (Exit.then K Q) F L := fun fl np a w hf ht => k fl (np_of_then np) a w hf ht
theorem q_block {i : Nat} (k : QW P W n w0 I .normal Q F L) : QW P W n w0 I .normal (Exit.inBlock i Q) F L := fun fl np a w hf ht => k fl (np_of_block np) a w hf ht
theorem q_block_ret {i : Nat} (k : QW P W n w0 I .ret Q F L) : QW P W n w0 I .ret (Exit.inBlock i Q) F L := fun fl np a w hf ht => k fl (np_of_block np) a w hf ht
theorem q_block_here {i j : Nat} (h : Nat.beq j i = true) (k : QW P W n w0 I .normal Q F L) : QW P W n w0 I (.exit j) (Exit.inBlock i Q) F L := by
  intro fl np a w hf ht
  obtain rfl := beq_spec.1 h
  simp only [Exit.inBlock, if_true]
  exact k fl (np_of_block np) a w hf ht
theorem q_block_on {i j : Nat} (h : Nat.beq j i = false) (k : QW P W n w0 I (.exit j) Q F L) : QW P W n w0 I (.exit j) (Exit.inBlock i Q) F L := by
  intro fl np a w hf ht
  have hne : j ≠ i := fun e => by rw [beq_spec.2 e] at h; cases h
  simp only [Exit.inBlock, hne, if_false]
  exact k fl (np_of_block np) a w hf ht
theorem c_block (h : cK c = 3) (k : CW P W n w0 I (cA c) (Exit.inBlock (cId c) Q) F L) : CW P W n w0 I c Q F L := by
  intro fl np a w hf ht
  have : c = .block (cId c) (cA c) := by cases c <;> first | (simp [cK] at h; done) | rfl | (rename_i d; cases d <;> first | rfl | (simp [cK] at h; done))
  rw [this]
  exact fl.block (k fl (np_block np) a w hf ht)
theorem c_skip (h : cK c = 10) (k : QW P W n w0 I .normal Q F L) : CW P W n w0 I c Q F L := by
  intro fl np a w hf ht
  have : c = .skip := by cases c <;> first | (simp [cK] at h; done) | rfl | (rename_i d; cases d <;> first | rfl | (simp [cK] at h; done))
  rw [this]
  exact fl.skip (k fl np a w hf ht)
theorem c_ret (h : cK c = 9) (k : QW P W n w0 I .ret Q F L) : CW P W n w0 I c Q F L := by
  intro fl np a w hf ht
  have : c = .ret := by cases c <;> first | (simp [cK] at h; done) | rfl | (rename_i d; cases d <;> first | rfl | (simp [cK] at h; done))
  rw [this]
  exact fl.ret (k fl np a w hf ht)
theorem c_exit {i : Nat} (h : cK c = 8) (hi : cId c = i) (k : QW P W n w0 I (.exit i) Q F L) : CW P W n w0 I c Q F L := by
  intro fl np a w hf ht
  subst hi
  have : c = .exit (cId c) := by cases c <;> first | (simp [cK] at h; done) | rfl | (rename_i d; cases d <;> first | rfl | (simp [cK] at h; done))
  rw [this]
  exact fl.exit (k fl np a w hf ht)
theorem code_cond (h : cK c = 2) : c = .cond (cC c) (cA c) (cB c) := by cases c <;> first | (simp [cK] at h; done) | rfl | (rename_i d; cases d <;> first | rfl | (simp [cK] at h; done))
theorem c_cond {t : Bool} (h : cK c = 2) (hc : ev F (cC c) = some (.bool t)) (h1 : t = true → CW P W n w0 I (cA c) Q F L) (h0 : t = false → CW P W n w0 I (cB c) Q F L) : CW P W n w0 I c Q F L := by
  intro fl np a w hf ht
  rw [code_cond h]
  exact fl.cond (hf.ev hc) (fun e => h1 e fl np a w hf ht) (fun e => h0 e fl np a w hf ht)
theorem c_cond1 (h : cK c = 2) (hc : ev F (cC c) = some (.bool true)) (h1 : CW P W n w0 I (cA c) Q F L) : CW P W n w0 I c Q F L :=
  c_cond h hc (fun _ => h1) (fun e => by cases e)
theorem c_cond0 (h : cK c = 2) (hc : ev F (cC c) = some (.bool false)) (h0 : CW P W n w0 I (cB c) Q F L) : CW P W n w0 I c Q F L :=
  c_cond h hc (fun e => by cases e) (fun _ => h0)
theorem q_pick {e : Exit} {L' : HL} (hm : ∀ p ∈ L', p ∈ L) (hn : (ids L).Nodup → (ids L').Nodup) (k : QW P W n w0 I e Q F L') : QW P W n w0 I e Q F L :=
  fun fl np a w hf ht => k fl np a w hf (ht.pick hm (hn ht.nodup))
theorem r_ord {l : List Nat} (h : cK c = 6) (hnd : noDefer (cOps c) = true) (hl : List.range (cOps c).size = l) (k : SW P W n w0 I (cOps c) Q l F L) : CW P W n w0 I c Q F L := by
  intro fl np a w hf ht
  have : c = .region (cId c) (cOps c) false := by cases c <;> first | (simp [cK] at h; done) | rfl | (rename_i d; cases d <;> first | rfl | (simp [cK] at h; done))
  rw [this]
  refine fl.ord np hnd ?_
  show wpOps P (cOps c) Q (List.range (cOps c).size) a w
  rw [hl]
  exact k fl np a w hf ht
theorem s_end {ops : Array Oper} (k : QW P W n w0 I .normal Q F L) : SW P W n w0 I ops Q [] F L := fun fl np a w hf ht => k fl np a w hf ht
theorem s_v {ops : Array Oper} {i d : Nat} {l : List Nat} {o : Oper} {v : Value} (ho : ops[i]? = some o) (hg : o.guard = none) (hd : o.dst = some d) (hn : Nat.blt d n.n = true) (h : OpV P n w0 I o F L v) (k : SW P W n w0 I ops Q l ((d, v) :: F) L) : SW P W n w0 I ops Q (i :: l) F L := by
  intro fl np a w hf ht
  simp only [wpOps, ho]
  rw [if_pos (by simp [Region.wanted, hg])]
  refine .inl ?_
  unfold Oper.wp
  rw [h a w hf ht.toWS, Oper.upon_value, hd]
  exact k fl np _ _ (hf.put (blt_lt hn) v) ht
theorem s_e {ops : Array Oper} {i : Nat} {l : List Nat} {o : Oper} {C : (FL → HL → Prop) → Prop} (ho : ops[i]? = some o) (hg : o.guard = none) (h : OpE P n w0 I o F L C) (k : C (fun F' L' => SW P W n w0 I ops Q l F' L')) : SW P W n w0 I ops Q (i :: l) F L := by
  intro fl np a w hf ht
  simp only [wpOps, ho]
  rw [if_pos (by simp [Region.wanted, hg])]
  exact .inl (h _ k a w hf ht _ _ np (fun F' L' hx a' w' hf' ht' => hx fl np a' w' hf' ht'))
def gd (ops : Array Oper) (F : FL) (o : Oper) : Option Bool :=
  match o.guard with
  | none => some true
  | some (j, want) => match (ops[j]?).bind (·.dst) with
    | some t => match look F t with
      | some (.bool b) => some (b == want)
      | some (.tuple _) => some false
      | _ => none
    | none => none
theorem gd_wanted {ops : Array Oper} {o : Oper} {a : Act} {b : Bool} (hf : Fr n a F) (h : gd ops F o = some b) : Region.wanted o (yielded ops a.tmps) = b := by
  unfold gd at h
  unfold Region.wanted
  cases hg : o.guard with
  | none => rw [hg] at h; exact Option.some.inj h
  | some jw =>
    obtain ⟨j, want⟩ := jw
    rw [hg] at h
    dsimp only at h
    cases ht : (ops[j]?).bind (·.dst) with
    | none => rw [ht] at h; cases h
    | some t =>
      rw [ht] at h
      dsimp only at h
      cases hl : look F t with
      | none => rw [hl] at h; cases h
      | some u =>
        rw [hl] at h
        cases u <;> first | (cases h; done) | skip
        case tuple x =>
          have hx := hf.at_ t _ hl
          have := Option.some.inj h
          subst this
          have hy : yielded ops a.tmps j = none := by
            simp only [yielded, ht, Option.bind_some]
            rw [Array.getD_eq_getD_getElem?] at hx
            cases hh : a.tmps[t]? with
            | none => rfl
            | some y => rw [hh] at hx; simp at hx; rw [hx]
          show (yielded ops a.tmps j == some want) = false
          rw [hy]
          cases want <;> rfl
        rename_i x
        have hx := hf.at_ t _ hl
        have hlt : a.tmps[t]? = some (.bool x) := by
          rw [Array.getD_eq_getD_getElem?] at hx
          cases hh : a.tmps[t]? with
          | none => rw [hh] at hx; simp [undef] at hx
          | some y => rw [hh] at hx; simp at hx; rw [hx]
        simp only [yielded, ht, Option.bind_some, hlt]
        have := Option.some.inj h
        rw [← this]
        cases x <;> cases want <;> rfl
theorem s_vg {ops : Array Oper} {i d : Nat} {l : List Nat} {o : Oper} {v : Value} (ho : ops[i]? = some o) (hg : gd ops F o = some true) (hd : o.dst = some d) (hn : Nat.blt d n.n = true) (h : OpV P n w0 I o F L v) (k : SW P W n w0 I ops Q l ((d, v) :: F) L) : SW P W n w0 I ops Q (i :: l) F L := by
  intro fl np a w hf ht
  simp only [wpOps, ho]
  rw [if_pos (gd_wanted hf hg)]
  refine .inl ?_
  unfold Oper.wp
  rw [h a w hf ht.toWS, Oper.upon_value, hd]
  exact k fl np _ _ (hf.put (blt_lt hn) v) ht
theorem s_eg {ops : Array Oper} {i : Nat} {l : List Nat} {o : Oper} {C : (FL → HL → Prop) → Prop} (ho : ops[i]? = some o) (hg : gd ops F o = some true) (h : OpE P n w0 I o F L C) (k : C (fun F' L' => SW P W n w0 I ops Q l F' L')) : SW P W n w0 I ops Q (i :: l) F L := by
  intro fl np a w hf ht
  simp only [wpOps, ho]
  rw [if_pos (gd_wanted hf hg)]
  exact .inl (h _ k a w hf ht _ _ np (fun F' L' hx a' w' hf' ht' => hx fl np a' w' hf' ht'))
theorem s_no {ops : Array Oper} {i d : Nat} {l : List Nat} {o : Oper} (ho : ops[i]? = some o) (hg : gd ops F o = some false) (hd : o.dst = some d) (hn : Nat.blt d n.n = true) (k : SW P W n w0 I ops Q l ((d, undef) :: F) L) : SW P W n w0 I ops Q (i :: l) F L := by
  intro fl np a w hf ht
  simp only [wpOps, ho]
  rw [if_neg (by rw [gd_wanted hf hg]; decide), hd]
  exact k fl np _ _ (hf.put (blt_lt hn) _) ht
theorem s_splitv {ops : Array Oper} {l : List Nat} {d : Nat} {t : Bool} (hl : look F d = some (.bool t)) (h1 : t = true → SW P W n w0 I ops Q l ((d, .bool true) :: F) L) (h0 : t = false → SW P W n w0 I ops Q l ((d, .bool false) :: F) L) : SW P W n w0 I ops Q l F L := by
  intro fl np a w hf ht
  cases t with
  | false => exact h0 rfl fl np a w (hf.sub (sub_cons hl (fun _ _ h => h))) ht
  | true => exact h1 rfl fl np a w (hf.sub (sub_cons hl (fun _ _ h => h))) ht
theorem WS.sub {w : World} {S : HL} (h : Tri w0 I w L) (hs : ∀ p ∈ S, p ∈ L) : WS w0 I w S :=
  { toAgree := h.toAgree, at_ := fun n o hp => h.at_ n o (hs _ hp), fact := fun φ hφ => (h.facts φ (hs _ hφ)).here }
theorem r_any (S : HL) (hm : P.follows .mixedOrders = true) (h : cK c = 7) (hnd : noDefer (cOps c) = true) (hs : ∀ p ∈ S, p ∈ L) (k : AW P W n w0 I (cOps c) Q S (cOps c).size (Array.replicate (cOps c).size false) F L) : CW P W n w0 I c Q F L := by
  intro fl np a w hf ht
  have : c = .region (cId c) (cOps c) true := by cases c <;> first | (simp [cK] at h; done) | rfl | (rename_i d; cases d <;> first | rfl | (simp [cK] at h; done))
  rw [this]
  refine fl.any np hnd hm (wpAny_of_held (S := fun w => WS w0 I w S) _ _ _ _ ?_)
  exact k fl np a _ hf ht.drew (WS.sub ht.drew hs)
theorem a_end {ops : Array Oper} {S : HL} {fuel : Nat} {listed : Array Bool} (hr : Region.ready .any ops listed = []) (k : QW P W n w0 I .normal Q F L) : AW P W n w0 I ops Q S fuel listed F L :=
  fun fl np a w hf ht hs => wpAnyH_done hr (k fl np a w hf ht) fuel
theorem a_v {ops : Array Oper} {S : HL} {fuel : Nat} {listed : Array Bool} {d : Nat} {o : Oper} {v : Value} (i : Nat) (hi : ops[i]? = some o) (hs : Region.noSelect ops = true) (hfr : Region.free .any ops listed i = true) (hr : (Region.ready .any ops listed).contains i = true) (hg : gd ops F o = some true) (hd : o.dst = some d) (hn : Nat.blt d n.n = true)
    (h : OpV P n w0 I o F S v) (k : AW P W n w0 I ops Q S fuel (listed.setIfInBounds i true) ((d, v) :: F) L) : AW P W n w0 I ops Q S (fuel + 1) listed F L := by
  intro fl np a w hf ht hS
  refine wpAnyH_take hi hs hfr hr (fun c a w hq => absurd hq (np.1 _ _ _)) (.inl ⟨gd_wanted hf hg, fun w hw => h a w hf hw⟩) hS ?_
  rw [hd]
  exact k fl np _ _ (hf.put (blt_lt hn) v) ht hS
theorem a_no {ops : Array Oper} {S : HL} {fuel : Nat} {listed : Array Bool} {d : Nat} {o : Oper} (i : Nat) (hi : ops[i]? = some o) (hs : Region.noSelect ops = true) (hfr : Region.free .any ops listed i = true) (hr : (Region.ready .any ops listed).contains i = true) (hg : gd ops F o = some false) (hd : o.dst = some d) (hn : Nat.blt d n.n = true)
    (k : AW P W n w0 I ops Q S fuel (listed.setIfInBounds i true) ((d, undef) :: F) L) : AW P W n w0 I ops Q S (fuel + 1) listed F L := by
  intro fl np a w hf ht hS
  refine wpAnyH_take hi hs hfr hr (fun c a w hq => absurd hq (np.1 _ _ _)) (.inr ⟨gd_wanted hf hg, rfl⟩) hS ?_
  rw [hd]
  exact k fl np _ _ (hf.put (blt_lt hn) _) ht hS
theorem a_splitv {ops : Array Oper} {S : HL} {fuel : Nat} {listed : Array Bool} {d : Nat} {t : Bool} (hl : look F d = some (.bool t)) (h1 : t = true → AW P W n w0 I ops Q S fuel listed ((d, .bool true) :: F) L) (h0 : t = false → AW P W n w0 I ops Q S fuel listed ((d, .bool false) :: F) L) : AW P W n w0 I ops Q S fuel listed F L := by
  intro fl np a w hf ht hS
  cases t with
  | false => exact h0 rfl fl np a w (hf.sub (sub_cons hl (fun _ _ h => h))) ht hS
  | true => exact h1 rfl fl np a w (hf.sub (sub_cons hl (fun _ _ h => h))) ht hS
def AWi (P : Program) (W : Code → (Exit → Act → World → Prop) → Act → World → Prop) (n : Sz) (w0 : World) (I : Ix) (ops : Array Oper) (Q : Exit → Act → World → Prop) (S : HL) (fuel : Nat) (listed : Array Bool) (i : Nat) (F : FL) (L : HL) : Prop :=
  Flav P W → NP Q → ∀ a w, Fr n a F → Tri w0 I w L → WS w0 I w S → wpOp P ops Q i (fun a' w' => WS w0 I w' S ∧ wpAnyH P .any ops Q (fun w => WS w0 I w S) fuel (listed.setIfInBounds i true) a' w') a w
theorem a_1 {ops : Array Oper} {S : HL} {fuel : Nat} {listed : Array Bool} {i : Nat} (hr : Region.ready .any ops listed = [i]) (k : AWi P W n w0 I ops Q S fuel listed i F L) : AW P W n w0 I ops Q S (fuel + 1) listed F L :=
  fun fl np a w hf ht hS => wpAnyH_all hr (by simp) (fun j hj => by obtain rfl := List.mem_singleton.1 hj; exact k fl np a w hf ht hS)
theorem a_2 {ops : Array Oper} {S : HL} {fuel : Nat} {listed : Array Bool} {i j : Nat} (hr : Region.ready .any ops listed = [i, j]) (k : AWi P W n w0 I ops Q S fuel listed i F L) (k' : AWi P W n w0 I ops Q S fuel listed j F L) : AW P W n w0 I ops Q S (fuel + 1) listed F L :=
  fun fl np a w hf ht hS => wpAnyH_all hr (by simp) (fun x hx => by
    simp only [List.mem_cons, List.not_mem_nil, or_false] at hx
    rcases hx with rfl | rfl
    · exact k fl np a w hf ht hS
    · exact k' fl np a w hf ht hS)
theorem i_e {ops : Array Oper} {S : HL} {fuel : Nat} {listed : Array Bool} {i : Nat} {o : Oper} {C : (FL → HL → Prop) → Prop} (ho : ops[i]? = some o) (hg : gd ops F o = some true) (h : OpE P n w0 I o F L C) (k : C (fun F' L' => (∀ p ∈ S, p ∈ L') ∧ AW P W n w0 I ops Q S fuel (listed.setIfInBounds i true) F' L')) : AWi P W n w0 I ops Q S fuel listed i F L := by
  intro fl np a w hf ht hS
  unfold wpOp
  simp only [ho]
  rw [if_pos (gd_wanted hf hg)]
  refine .inl (h _ k a w hf ht _ _ np (fun F' L' hx a' w' hf' ht' => ?_))
  exact ⟨WS.sub ht' hx.1, hx.2 fl np a' w' hf' ht' (WS.sub ht' hx.1)⟩
theorem i_v {ops : Array Oper} {S : HL} {fuel : Nat} {listed : Array Bool} {i d : Nat} {o : Oper} {v : Value} (ho : ops[i]? = some o) (hg : gd ops F o = some true) (hd : o.dst = some d) (hn : Nat.blt d n.n = true) (h : OpV P n w0 I o F L v) (k : AW P W n w0 I ops Q S fuel (listed.setIfInBounds i true) ((d, v) :: F) L) : AWi P W n w0 I ops Q S fuel listed i F L := by
  intro fl np a w hf ht hS
  unfold wpOp
  simp only [ho]
  rw [if_pos (gd_wanted hf hg)]
  refine .inl ?_
  unfold Oper.wp
  rw [h a w hf ht.toWS, Oper.upon_value, hd]
  exact ⟨hS, k fl np _ _ (hf.put (blt_lt hn) v) ht hS⟩
def Con (P : Program) (f : FuncId) (args : Array Value) (w : World) (H : List Nat) (L : HL) (C : (Value → HL → Prop) → Prop) : Prop :=
  Tri w ⟨ids L, H⟩ w L → ∀ X : Value → HL → Prop, C X → Calls P f args w fun e w' => ∃ v L', e = .returned v ∧ X v L' ∧ Tri w ⟨ids L, H⟩ w' L'
def enumF : Nat → List Value → FL
  | _, [] => []
  | k, v :: r => (k, v) :: enumF (k + 1) r
theorem look_enumF : ∀ (k : Nat) (vs : List Value) (j : Nat) (v : Value), look (enumF k vs) j = some v → k ≤ j ∧ vs[j - k]? = some v
  | _, [], _, _, h => by cases h
  | k, u :: r, j, v, h => by
    rw [enumF, look_cons] at h
    by_cases hj : k = j
    · subst hj
      rw [if_pos rfl] at h
      exact ⟨Nat.le_refl _, by simpa using h⟩
    · rw [if_neg hj] at h
      obtain ⟨h1, h2⟩ := look_enumF (k + 1) r j v h
      refine ⟨by omega, ?_⟩
      rw [show j - k = (j - (k + 1)) + 1 by omega, List.getElem?_cons_succ]
      exact h2
def Post (X : Value → HL → Prop) (w0 : World) (I : Ix) : Ending → World → Prop := fun e w' => ∃ v L', e = .returned v ∧ X v L' ∧ Tri w0 I w' L'
theorem con_enter {H : List Nat} {f : FuncId} {fn : Func} {args : Array Value} {C : (Value → HL → Prop) → Prop} (hf : P.funcs[f]? = some fn) (hb : fn.body = some c) {m : Nat} (hm : fn.ntmps = m) (ha : Nat.ble args.size m = true) {F0 : FL} (hF : enumF 0 args.toList = F0)
    (k : ∀ X, C X → Tri w0 ⟨ids L, H⟩ w0 L → CW P (Code.wp P) ⟨m, []⟩ w0 ⟨ids L, H⟩ c (bodyPost P fn (Post X w0 ⟨ids L, H⟩)) F0 L) : Con P f args w0 H L C := by
  intro ht X hX
  have ha' : args.size ≤ m := by simpa using Nat.le_of_ble_eq_true ha
  subst hm hF
  refine calls_of_wp hf hb (k X hX ht (flav_plain P) ⟨fun ch a w hq => ?_, fun a w hq => ?_⟩ _ _ ⟨by simp; omega, rfl, fun j v hv => ?_⟩ ht)
  · obtain ⟨_, v, L', he, _⟩ := hq
    cases he
  · obtain ⟨v, L', he, _⟩ := hq
    cases he
  · obtain ⟨_, h2⟩ := look_enumF 0 args.toList j v hv
    rw [Nat.sub_zero] at h2
    have hlt : j < args.size := by
      have := (List.getElem?_eq_some_iff.1 h2).1
      simpa using this
    show (args ++ Array.replicate (fn.ntmps - args.size) undef).getD j undef = v
    rw [Array.getD_eq_getD_getElem?, Array.getElem?_append_left hlt]
    rw [Array.getElem?_toList] at h2
    rw [h2]
    rfl
inductive RVs (F : FL) : List ResultVar → List Value → Prop where
  | nil : RVs F [] []
  | cons {t : Tmp} {r : List ResultVar} {v : Value} {vs : List Value} : look F t = some v → RVs F r vs → RVs F (.tmp t :: r) (v :: vs)
def packV (vs : List Value) : Value := match vs with | [v] => v | _ => .tuple vs.toArray
theorem results_rvs {fn : Func} {a : Act} {w : World} {rs : List ResultVar} {vs : List Value} (hr : fn.results = rs.toArray) (h : RVs F rs vs) (hf : Fr n a F) : (results fn a.tmps).run P w = .ok (packV vs) w := by
  have key : ∀ {rs : List ResultVar} {vs : List Value}, RVs F rs vs → (rs.mapM (m := Sem) fun | .tmp t => pure (a.tmps.getD t undef) | .cell x t => do loadVar t (← asAddr (a.tmps.getD x undef))).run P w = .ok vs w := by
    intro rs vs h
    induction h with
    | nil => simp
    | cons h1 _ ih => 
      simp only [List.mapM_cons, Sem.run_bind, Sem.run_pure, Result.andThen_ok, hf.at_ _ _ h1, ih]
  have k := key h
  have hm : (fn.results.mapM (m := Sem) fun | .tmp t => pure (a.tmps.getD t undef) | .cell x t => do loadVar t (← asAddr (a.tmps.getD x undef))).run P w = .ok vs.toArray w := by
    rw [hr]
    simp only [List.mapM_toArray, Sem.run_map, k, Result.andThen_ok]
  unfold results
  rw [Sem.run_bind]
  refine (congrArg (fun r => Result.andThen r _) hm).trans ?_
  simp only [Result.andThen_ok]
  match vs with
  | [] => simp [packV]
  | [v] => simp [packV]
  | u :: v :: r => simp [packV]
end
end Go.Eng
namespace Go.Eng
open Go.RowKit
set_option linter.unusedVariables false
set_option linter.unusedSimpArgs false
section
variable {P : Program} {n : Sz} {w0 : World} {I : Ix} {F : FL} {L : HL} {o : Oper}
theorem v_mv {x : Operand} {v : Value} (ho : o.op = .move x) (hx : ev F x = some v) : OpV P n w0 I o F L v := by
  intro a w hf hs
  simp [execOp, ho, hf.ev hx]
theorem v_as {x : Operand} {v : Value} (ho : o.op = .assign x) (hx : ev F x = some v) : OpV P n w0 I o F L v := by
  intro a w hf hs
  simp [execOp, ho, hf.ev hx]
theorem v_pick {c x y : Operand} {b : Bool} {u v : Value} (ho : o.op = .pick c x y) (hc : ev F c = some (.bool b)) (hx : ev F x = some u) (hy : ev F y = some v) : OpV P n w0 I o F L (if b then u else v) := by
  intro a w hf hs
  simp [execOp, ho, hf.ev hc, hf.ev hx, hf.ev hy, asBool]
def notAgg : TypeDesc → Bool
  | .struct _ | .array _ _ => false
  | _ => true
theorem run_isAgg0 {t : TypeId} {d : TypeDesc} (h : P.underlying t = some d) (hd : notAgg d = true) (w : World) : (isAgg t).run P w = .ok false w := by
  unfold isAgg
  rw [Sem.run_bind, run_underlying h]
  cases d <;> first | (simp [notAgg] at hd; done) | simp
theorem run_isAgg1 {t : TypeId} {d : TypeDesc} (h : P.underlying t = some d) (hd : notAgg d = false) (w : World) : (isAgg t).run P w = .ok true w := by
  unfold isAgg
  rw [Sem.run_bind, run_underlying h]
  cases d <;> first | (simp [notAgg] at hd; done) | simp
theorem run_load {w : World} {a : Addr} {v : Value} (h : w.cell? a = some v) : (load a).run P w = .ok v w := by
  simp [load, Sem.run, h]
theorem v_ld {t : TypeId} {x : Operand} {d : TypeDesc} {b off : Nat} {cs : Array Value} {e : TypeId} {fz : Nat × Nat} {v : Value} (i : Nat) (ho : o.op = .load t x) (ht : P.underlying t = some d) (hd : notAgg d = true) (hx : ev F x = some (.pointer (some ⟨b, off, none⟩)))
    (hL : L[i]? = some (.b b (.cells cs e fz))) (hc : cs[off]? = some v) : OpV P n w0 I o F L v := by
  intro a w hf hs
  have h1 : w.cell? ⟨b, off, none⟩ = some v := (hs.cell hL off).trans hc
  simp only [execOp, ho, hf.ev hx, Instr.loadAt, Instr.sureAddr, loadVar, Sem.run_bind, Sem.run_pure, Result.andThen_ok, run_isAgg0 ht hd, if_false, Bool.false_eq_true, run_load h1]
theorem run_size {t : TypeId} {m : Nat} (h : (P.info? t).map (·.size) = some m) (w : World) : (sizeOf t).run P w = .ok m w := by
  obtain ⟨i, hi, hm⟩ := Option.map_eq_some_iff.1 h
  unfold sizeOf typeInfo
  simp [program, Sem.run, hi, hm]
theorem run_cells {w : World} {b off : Nat} {vs : List Value} (h : ∀ j v, vs[j]? = some v → w.cell? ⟨b, off + j, none⟩ = some v) : (loadCells ⟨b, off, none⟩ vs.length).run P w = .ok vs.toArray w := by
  refine run_loadCells_list w _ vs (fun j v hv => ?_)
  have := h j v hv
  unfold Addr.add
  split
  · rename_i h0; subst h0; simpa using this
  · exact this
theorem v_ldA {t : TypeId} {x : Operand} {d : TypeDesc} {b off m : Nat} {cs : Array Value} {e : TypeId} {fz : Nat × Nat} (vs : List Value) (i : Nat) (ho : o.op = .load t x) (ht : P.underlying t = some d) (hd : notAgg d = false) (hm : (P.info? t).map (·.size) = some m) (hx : ev F x = some (.pointer (some ⟨b, off, none⟩)))
    (hL : L[i]? = some (.b b (.cells cs e fz))) (hl : vs.length = m) (hc : (cs.toList.drop off).take m = vs) : OpV P n w0 I o F L (.agg vs.toArray) := by
  intro a w hf hs
  have h1 : ∀ j v, vs[j]? = some v → w.cell? ⟨b, off + j, none⟩ = some v := by
    intro j v hv
    rw [hs.cell hL]
    rw [← hc, List.getElem?_take] at hv
    split at hv
    · rw [List.getElem?_drop] at hv
      simpa using hv
    · cases hv
  have h2 := run_cells (P := P) (w := w) h1
  rw [hl] at h2
  simp only [execOp, ho, hf.ev hx, Instr.loadAt, Instr.sureAddr, loadVar, Sem.run_bind, Sem.run_pure, Result.andThen_ok, run_isAgg1 ht hd, if_true, run_size hm, h2]
theorem v_fa {s : TypeId} {x : Operand} {f : Nat} {fs : Array Field} {fd : Field} {b off m : Nat} (ho : o.op = .fieldAddr s x f) (hs' : P.underlying s = some (.struct fs)) (hf' : fs[f]? = some fd) (hm : (P.info? fd.type).map (·.size) = some (m + 1)) (hx : ev F x = some (.pointer (some ⟨b, off, none⟩))) : OpV P n w0 I o F L (.pointer (some ⟨b, off + fd.offset, none⟩)) := by
  intro a w hf hs
  simp only [execOp, ho, hf.ev hx, Instr.fieldAt, Instr.sureAddr, Sem.run_bind, Sem.run_pure, Result.andThen_ok, run_underlying hs', hf', fieldPlace, run_size hm, Nat.add_eq_zero_iff, Nat.one_ne_zero, and_false, if_false]
  congr 4
  unfold Addr.add
  split
  · rename_i h0; rw [h0]; rfl
  · rfl
theorem v_ar {op : BinOp} {t t' : TypeId} {x y : Operand} {k : IntKind} {m q : Int} {v : Value} (ho : o.op = .binOp op t x y t') (hx : ev F x = some (.int k m)) (hy : ev F y = some (.int k q))
    (h : (match op with | .add => some (Value.int k (k.wrap (m + q))) | .sub => some (Value.int k (k.wrap (m - q))) | .mul => some (Value.int k (k.wrap (m * q))) | .eql => some (.bool (m == q)) | .neq => some (.bool (m != q)) | .lss => some (.bool (decide (m < q))) | .leq => some (.bool (decide (m ≤ q))) | .gtr => some (.bool (decide (m > q))) | .geq => some (.bool (decide (m ≥ q))) | _ => none) = some v) : OpV P n w0 I o F L v := by
  intro a w hf hs
  cases op <;> simp only [reduceCtorEq] at h <;> have h' := Option.some.inj h <;> subst h' <;>
    simp [execOp, ho, hf.ev hx, hf.ev hy, eqGuard, binOp, Op.intArith, Op.intCmp]
theorem v_shr {t t' : TypeId} {x y : Operand} {k k' : IntKind} {m q : Int} (ho : o.op = .binOp .shr t x y t') (hx : ev F x = some (.int k m)) (hy : ev F y = some (.int k' q)) (hq : 0 ≤ q) : OpV P n w0 I o F L (.int k (m.fdiv (2 ^ (min q.toNat k.bits)))) := by
  intro a w hf hs
  have : ¬ q < 0 := by omega
  simp [execOp, ho, hf.ev hx, hf.ev hy, eqGuard, binOp, Op.shift, this]
theorem v_not {t : TypeId} {x : Operand} {b : Bool} (ho : o.op = .unOp .not t x) (hx : ev F x = some (.bool b)) : OpV P n w0 I o F L (.bool !b) := by
  intro a w hf hs
  simp [execOp, ho, hf.ev hx, Op.unary]
theorem v_conv {t u : TypeId} {x : Operand} {d : TypeDesc} {k k' : IntKind} {m : Int} (ho : o.op = .convert t u x) (ht : P.underlying t = some d) (hu : P.underlying u = some (.int k)) (hx : ev F x = some (.int k' m)) : OpV P n w0 I o F L (.int k (k.wrap m)) := by
  intro a w hf hs
  simp [execOp, ho, hf.ev hx, convert, run_underlying ht, run_underlying hu, Conv.intToInt]
theorem v_ext {x : Operand} {j : Nat} {vs : Array Value} {v : Value} (ho : o.op = .extract x j) (hx : ev F x = some (.tuple vs)) (hv : vs[j]? = some v) : OpV P n w0 I o F L v := by
  intro a w hf hs
  simp [execOp, ho, hf.ev hx, Instr.extract, hv]
theorem v_mf {fn : Fn} {fst cap : Array Operand} {us vs : List Value} (ho : o.op = .makeFunc fn fst cap) (h1 : evs F fst.toList = some us) (h2 : evs F cap.toList = some vs) : OpV P n w0 I o F L (.func fn us.toArray vs.toArray) := by
  intro a w hf hs
  have e1 : fst.map a.eval = us.toArray := Array.toList_inj.1 (by simpa using hf.evs h1)
  have e2 : cap.map a.eval = vs.toArray := Array.toList_inj.1 (by simpa using hf.evs h2)
  simp [execOp, ho, Instr.makeFunc, e1, e2]
theorem v_ia {t e : TypeId} {x y : Operand} {ad : Addr} {len cap m : Nat} {k : IntKind} {j : Int} (ho : o.op = .indexAddr t x y) (ht : P.underlying t = some (.slice e)) (hm : (P.info? e).map (·.size) = some m) (hx : ev F x = some (.slice (some ad) len cap)) (hy : ev F y = some (.int k j)) (h0 : 0 ≤ j) (h1 : j < len) : OpV P n w0 I o F L (.pointer (some (ad.add (j.toNat * m)))) := by
  intro a w hf hs
  simp [execOp, ho, hf.ev hx, hf.ev hy, Instr.indexAt, asIntOf, run_underlying ht, h0, h1, run_size hm]
theorem v_build {t : TypeId} {ps : Array (Nat × Operand)} {fs : Array Field} {z : Value} {places : Array (Nat × Nat)} {us : List Value} (cs : Array Value) (ho : o.op = .build t ps) (hz : (P.info? t).bind (·.zero) = some z) (ht : P.underlying t = some (.struct fs)) (hp : fs.toList.mapM (fun f => (P.info? f.type).map fun i => (f.offset, i.size)) = some places.toList)
    (hu : evs F (ps.toList.map (·.2)) = some us) (hc : Instr.fill (places[·]?) z.cells ((ps.toList.map (·.1)).zip us) = some cs) : OpV P n w0 I o F L (.agg cs) := by
  intro a w hf hs
  obtain ⟨i, hi, hzz⟩ := Option.bind_eq_some_iff.1 hz
  have e1 : (ps.map fun (i, x) => (i, a.eval x)).toList = (ps.toList.map (·.1)).zip us := by
    rw [← hf.evs hu]
    simp [List.zip_map', Function.comp_def]
  have key : ∀ (l : List Field) (q : List (Nat × Nat)), l.mapM (fun f => (P.info? f.type).map fun i => (f.offset, i.size)) = some q → (l.mapM (m := Sem) fun f => do pure (f.offset, ← sizeOf f.type)).run P w = .ok q w := by
    intro l
    induction l with
    | nil => intro q hq; simp at hq; subst hq; simp
    | cons f r ih =>
      intro q hq
      simp only [List.mapM_cons, Option.bind_eq_bind, Option.bind_eq_some_iff] at hq
      obtain ⟨y, hy, q', hq', e⟩ := hq
      obtain ⟨inf, hinf, rfl⟩ := Option.map_eq_some_iff.1 hy
      have := Option.some.inj e
      subst this
      simp only [List.mapM_cons, Sem.run_bind, Sem.run_pure, Result.andThen_ok, ih q' hq', run_size (show (P.info? f.type).map (·.size) = some inf.size by rw [hinf]; rfl)]
  have k := key fs.toList places.toList hp
  have hzv : (zeroValue t).run P w = .ok z w := by
    unfold zeroValue typeInfo
    simp [program, Sem.run, hi, hzz]
  obtain ⟨fl⟩ := fs
  obtain ⟨pl⟩ := places
  simp only [execOp, ho, Instr.build, Sem.run_bind, Sem.run_pure, Result.andThen_ok, hzv, run_underlying ht, List.mapM_toArray, Sem.run_map, k, e1]
  have hc' : Instr.fill (fun x => pl[x]?) z.cells ((ps.toList.map (·.1)).zip us) = some cs := by simpa using hc
  simp [hc']
theorem e_alloc {t : TypeId} {z : Value} {d : Nat} (ho : o.op = .alloc t) (hd : o.dst = some d) (hn : Nat.blt d n.n = true) (hz : (P.info? t).bind (·.zero) = some z) :
    OpE P n w0 I o F L (fun X => ∀ b, X ((d, .pointer (some ⟨b, 0, none⟩)) :: F) (.b b (.cells z.cells t (0, 0)) :: L)) := by
  intro X hX a w hf ht K Q np hK
  obtain ⟨i, hi, hzz⟩ := Option.bind_eq_some_iff.1 hz
  have hr : (execOp a.eval o).run P w = .ok (.value (.pointer (some ⟨w.heap.size, 0, none⟩))) { w with heap := w.heap.push (.cells z.cells t) } := by
    simp [execOp, ho, Instr.alloc, zeroValue, typeInfo, program, Sem.run, hi, hzz, newVar, newRow, newObj]
  unfold Oper.wp
  rw [hr, Oper.upon_value, hd]
  exact hK _ _ (hX w.heap.size) _ _ (hf.put (blt_lt hn) _) (ht.alloc _)
theorem e_box {t : TypeId} {x : Operand} {v : Value} {d : Nat} (ho : o.op = .box t x) (hd : o.dst = some d) (hn : Nat.blt d n.n = true) (hx : ev F x = some v) :
    OpE P n w0 I o F L (fun X => ∀ b, X ((d, .pointer (some ⟨b, 0, none⟩)) :: F) (.b b (.cells v.cells t (0, 0)) :: L)) := by
  intro X hX a w hf ht K Q np hK
  have hr : (execOp a.eval o).run P w = .ok (.value (.pointer (some ⟨w.heap.size, 0, none⟩))) { w with heap := w.heap.push (.cells v.cells t) } := by
    simp [execOp, ho, hf.ev hx, Instr.box, Sem.run, newVar, newRow, newObj]
  unfold Oper.wp
  rw [hr, Oper.upon_value, hd]
  exact hK _ _ (hX w.heap.size) _ _ (hf.put (blt_lt hn) _) (ht.alloc _)
def one : Value → Bool
  | .agg _ | .tuple _ => false
  | _ => true
theorem e_st {t : TypeId} {x y : Operand} {b off : Nat} {cs : Array Value} {e : TypeId} {v : Value} (i : Nat) (ho : o.op = .store t x y) (hd : o.dst = none) (hm : (P.info? t).map (·.size) = some 1) (hx : ev F x = some (.pointer (some ⟨b, off, none⟩))) (hy : ev F y = some v) (hv : one v = true)
    (hL : L[i]? = some (.b b (.cells cs e (0, 0)))) (hc : off < cs.size) : OpE P n w0 I o F L (fun X => X F (L.set i (.b b (.cells (cs.setIfInBounds off v) e (0, 0))))) := by
  intro X hX a w hf ht K Q np hK
  have hcell : w.cell? ⟨b, off, none⟩ = some cs[off] := by rw [ht.toWS.cell hL]; simp [hc]
  have hfz : w.frozen? ⟨b, off, none⟩ = false := by simp [World.frozen?, ht.toWS.get hL]
  have hcv : v.cells = #[v] := by cases v <;> simp [one] at hv <;> rfl
  have hr : (execOp a.eval o).run P w = .ok .skip (w.setCell ⟨b, off, none⟩ v) := by
    simp only [execOp, ho, hf.ev hx, hf.ev hy, Instr.storeAt, Instr.sureAddr, storeVar, hcv, Sem.run_bind, Sem.run_pure, Result.andThen_ok, run_size hm]
    cases v <;> first | (simp [one] at hv; done) | simp [storeCells, store, Sem.run, Addr.add, hcell, hfz]
  unfold Oper.wp
  rw [hr, Oper.upon_skip, hd]
  exact hK _ _ hX _ _ hf (ht.setCell hL off v)
end
def pick (L : HL) : List Nat → Option HL
  | [] => some []
  | i :: r => match L[i]?, pick L r with
    | some p, some q => some (p :: q)
    | _, _ => none
theorem mem_pick {L : HL} : ∀ {idx : List Nat} {L' : HL}, pick L idx = some L' → ∀ p ∈ L', p ∈ L
  | [], L', h, p, hp => by simp [pick] at h; subst h; cases hp
  | i :: r, L', h, p, hp => by
    simp only [pick] at h
    cases h1 : L[i]? with
    | none => rw [h1] at h; cases h
    | some q => cases h2 : pick L r with
      | none => rw [h1, h2] at h; cases h
      | some q' =>
        rw [h1, h2] at h
        have := Option.some.inj h
        subst this
        rcases List.mem_cons.1 hp with rfl | hp
        · exact List.mem_of_getElem? h1
        · exact mem_pick h2 p hp
theorem pick_sub {L : HL} : ∀ {idx : List Nat} {L' : HL}, pick L idx = some L' → ∀ n ∈ ids L', ∃ i ∈ idx, ∃ o, L[i]? = some (.b n o)
  | [], L', h, n, hn => by simp [pick] at h; subst h; simp [ids] at hn
  | i :: r, L', h, n, hn => by
    simp only [pick] at h
    cases h1 : L[i]? with
    | none => rw [h1] at h; cases h
    | some q => cases h2 : pick L r with
      | none => rw [h1, h2] at h; cases h
      | some q' =>
        rw [h1, h2] at h
        have := Option.some.inj h
        subst this
        cases q with
        | b m o =>
          rw [ids_b] at hn
          rcases List.mem_cons.1 hn with rfl | hn
          · exact ⟨i, List.mem_cons_self, o, h1⟩
          · obtain ⟨j, hj, e⟩ := pick_sub h2 n hn
            exact ⟨j, List.mem_cons_of_mem _ hj, e⟩
        | f φ =>
          rw [ids_f] at hn
          obtain ⟨j, hj, e⟩ := pick_sub h2 n hn
          exact ⟨j, List.mem_cons_of_mem _ hj, e⟩
theorem nodup_idx {L : HL} (h : (ids L).Nodup) {i j n : Nat} {o u : Obj} (hi : L[i]? = some (.b n o)) (hj : L[j]? = some (.b n u)) : i = j := by
  induction L generalizing i j with
  | nil => cases hi
  | cons e r ih =>
    cases i with
    | zero =>
      cases j with
      | zero => rfl
      | succ j =>
        simp at hi hj
        subst hi
        rw [ids_b, List.nodup_cons] at h
        exact absurd (mem_ids.2 ⟨u, List.mem_of_getElem? hj⟩) h.1
    | succ i =>
      have hnr : (ids r).Nodup := by
        cases e with
        | b m q => rw [ids_b, List.nodup_cons] at h; exact h.2
        | f φ => rw [ids_f] at h; exact h
      cases j with
      | zero =>
        simp at hi hj
        subst hj
        rw [ids_b, List.nodup_cons] at h
        exact absurd (mem_ids.2 ⟨o, List.mem_of_getElem? hi⟩) h.1
      | succ j => exact congrArg (· + 1) (ih hnr (by simpa using hi) (by simpa using hj))
theorem pick_nodup {L : HL} (hn : (ids L).Nodup) : ∀ {idx : List Nat} {L' : HL}, pick L idx = some L' → idx.Nodup → (ids L').Nodup
  | [], L', h, _ => by simp [pick] at h; subst h; simp [ids]
  | i :: r, L', h, hi => by
    simp only [pick] at h
    cases h1 : L[i]? with
    | none => rw [h1] at h; cases h
    | some q => cases h2 : pick L r with
      | none => rw [h1, h2] at h; cases h
      | some q' =>
        rw [h1, h2] at h
        have := Option.some.inj h
        subst this
        rw [List.nodup_cons] at hi
        have ih := pick_nodup hn h2 hi.2
        cases q with
        | f φ => rw [ids_f]; exact ih
        | b m o =>
          rw [ids_b, List.nodup_cons]
          refine ⟨fun hm => ?_, ih⟩
          obtain ⟨j, hj, u, hju⟩ := pick_sub h2 m hm
          have := nodup_idx hn h1 hju
          subst this
          exact hi.1 hj
theorem pick_app {L : HL} : ∀ {a b : List Nat} {L1 L2 : HL}, pick L a = some L1 → pick L b = some L2 → pick L (a ++ b) = some (L1 ++ L2)
  | [], b, L1, L2, h1, h2 => by simp [pick] at h1; subst h1; simpa using h2
  | i :: r, b, L1, L2, h1, h2 => by
    simp only [pick] at h1
    cases e1 : L[i]? with
    | none => rw [e1] at h1; cases h1
    | some q => cases e2 : pick L r with
      | none => rw [e1, e2] at h1; cases h1
      | some q' =>
        rw [e1, e2] at h1
        have := Option.some.inj h1
        subst this
        simp only [List.cons_append, pick, e1, pick_app e2 h2]
section
variable {P : Program} {W : Code → (Exit → Act → World → Prop) → Act → World → Prop} {n : Sz} {w0 : World} {I : Ix} {F : FL} {L : HL} {o : Oper} {Q : Exit → Act → World → Prop}
theorem q_take {e : Exit} {L' : HL} (idx : List Nat) (h : pick L idx = some L') (hi : idx.Nodup) (k : QW P W n w0 I e Q F L') : QW P W n w0 I e Q F L :=
  q_pick (mem_pick h) (fun hn => pick_nodup hn h hi) k
theorem tri_give {w : World} {L' : HL} {g : Nat} {o' : Obj} {φ : World → Prop} (ht : Tri w0 I w L) (idx : List Nat) (hp : pick L idx = some (.b g o' :: L')) (hi : idx.Nodup) (hI : g ∉ I.own) (hφ : ∀ w, w.heap[g]? = some o' → φ w) : Tri w0 I w (.f φ :: L') := by
  have h1 := (ht.pick (mem_pick hp) (pick_nodup ht.nodup hp hi)).give hI
  refine { toAgree := h1.toAgree, at_ := fun k u hk => h1.at_ k u ?_, own := fun k hk => h1.own k (by rw [ids_f] at hk ⊢; exact hk), nodup := (by have := h1.nodup; rw [ids_f] at this ⊢; exact this), facts := fun ψ hψ => ?_, hol := h1.hol }
  · rcases List.mem_cons.1 hk with h | h
    · cases h
    · exact List.mem_cons_of_mem _ h
  · rw [ids_f]
    rcases List.mem_cons.1 hψ with h | h
    · injection h with e
      subst e
      have := h1.facts _ List.mem_cons_self
      rw [ids_f] at this
      exact fun w' ha => hφ w' (this w' ha)
    · have := h1.facts ψ (List.mem_cons_of_mem _ h)
      rwa [ids_f] at this
theorem q_give {e : Exit} {L' : HL} {g : Nat} {o' : Obj} {φ : World → Prop} (idx : List Nat) (hp : pick L idx = some (.b g o' :: L')) (hi : idx.Nodup) (hI : g ∉ I.own) (hφ : ∀ w, w.heap[g]? = some o' → φ w) (k : QW P W n w0 I e Q F (.f φ :: L')) : QW P W n w0 I e Q F L :=
  fun fl np a w hf ht => k fl np a w hf (tri_give ht idx hp hi hI hφ)
theorem c_give {c : Code} {L' : HL} {g : Nat} {o' : Obj} {φ : World → Prop} (idx : List Nat) (hp : pick L idx = some (.b g o' :: L')) (hi : idx.Nodup) (hI : g ∉ I.own) (hφ : ∀ w, w.heap[g]? = some o' → φ w) (k : CW P W n w0 I c Q F (.f φ :: L')) : CW P W n w0 I c Q F L :=
  fun fl np a w hf ht => k fl np a w hf (tri_give ht idx hp hi hI hφ)
theorem q_know {e : Exit} {φ : World → Prop} (hφ : ∀ w, φ w) (k : QW P W n w0 I e Q F (.f φ :: L)) : QW P W n w0 I e Q F L :=
  fun fl np a w hf ht => k fl np a w hf (ht.know (fun w' _ => hφ w'))
theorem q_post {m : Nat} {fn : Func} {X : Value → HL → Prop} {rs : List ResultVar} {vs : List Value} (hr : fn.results = rs.toArray) (h : RVs F rs vs) (hX : X (packV vs) L) : QW P W ⟨m, []⟩ w0 I .ret (bodyPost P fn (Post X w0 I)) F L :=
  fun fl np a w hf ht => ⟨hf.defers, _, results_rvs hr h hf, _, _, rfl, hX, ht⟩
theorem q_post_n {m : Nat} {fn : Func} {X : Value → HL → Prop} {rs : List ResultVar} {vs : List Value} (hr : fn.results = rs.toArray) (h : RVs F rs vs) (hX : X (packV vs) L) : QW P W ⟨m, []⟩ w0 I .normal (bodyPost P fn (Post X w0 I)) F L :=
  fun fl np a w hf ht => ⟨hf.defers, _, results_rvs hr h hf, _, _, rfl, hX, ht⟩
theorem run_callFunc {g : FuncId} {fn : Func} (hf : P.funcs[g]? = some fn) (hb : fn.body.isNone = false) (hname : (fn.name == "runtime.NumGoroutine") = false) (vs : Array Value) (w : World) : (callFunc g vs).run P w = .ok (.enter g vs) w := by
  unfold callFunc
  have h1 : ¬ fn.name = "runtime.NumGoroutine" := by simpa using hname
  have h2 : ¬ fn.body = none := by intro e; rw [e] at hb; cases hb
  simp [program, Sem.run, hf, h1, h2]
theorem e_call {c : Call} {x : Operand} {g : FuncId} {fn : Func} {fst cap : Array Value} {vs : List Value} {d : Nat} {L1 L2 : HL} {C : (Value → HL → Prop) → Prop} (idx rest : List Nat) (args : Array Value) (ho : o.op = .call c) (hc : c.callee = .value x) (hx : ev F x = some (.func (.func g) fst cap)) (hv : evs F c.args.toList = some vs) (hargs : fst ++ vs.toArray ++ cap = args)
    (hf : P.funcs[g]? = some fn) (hb : fn.body.isNone = false) (hname : (fn.name == "runtime.NumGoroutine") = false) (hd : o.dst = some d) (hn : Nat.blt d n.n = true) (h1 : pick L idx = some L1) (h2 : pick L rest = some L2) (hi : (idx ++ rest).Nodup)
    (hcon : ∀ w, Tri w0 I w L → Con P g args w (I.holes ++ ids L2) L1 C) : OpE P n w0 I o F L (fun X => C (fun v L1' => X ((d, v) :: F) (L1' ++ L2))) := by
  intro X hX a w hfr ht K Q np hK
  have e1 : c.args.map a.eval = vs.toArray := Array.toList_inj.1 (by simpa using hfr.evs hv)
  have hr : (execOp a.eval o).run P w = .ok (.enter g args) w := by
    simp only [execOp, ho, resolve, hc, e1, hfr.ev hx, Deferred.ofValue, Sem.run_bind, Sem.run_pure, Result.andThen_ok, invoke, hargs, run_callFunc hf hb hname]
  have h12 : ∀ p ∈ L1 ++ L2, p ∈ L := mem_pick (pick_app h1 h2)
  have hnd := pick_nodup ht.nodup (pick_app h1 h2) hi
  have h := hcon w ht (ht.here h12 hnd) _ hX
  unfold Oper.wp
  rw [hr, Oper.upon_enter]
  refine h.mono ?_
  rintro e w' ⟨v, L', rfl, hx', ht'⟩
  show K (a.put o.dst v) w'
  rw [hd]
  exact hK _ _ hx' _ _ (hfr.put (blt_lt hn) v) (ht.trans h12 hnd ht')
theorem run_storeCells_w {b off : Nat} {e : TypeId} : ∀ (vs : List Value) (i : Nat) (cs : Array Value) (w : World), w.heap[b]? = some (.cells cs e (0, 0)) → off + i + vs.length ≤ cs.size → (∀ v ∈ vs, one v = true) →
    ∃ H cs', (storeCells ⟨b, off, none⟩ vs i).run P w = .ok () { w with heap := H } ∧ H.size = w.heap.size ∧ H[b]? = some (.cells cs' e (0, 0)) ∧ (∀ k, k ≠ b → H[k]? = w.heap[k]?) ∧ cs'.size = cs.size ∧ cs'.toList = cs.toList.take (off + i) ++ vs ++ cs.toList.drop (off + i + vs.length)
  | [], i, cs, w, hb, hl, hv => by
    refine ⟨w.heap, cs, by simp [storeCells], rfl, hb, fun _ _ => rfl, rfl, by simp⟩
  | v :: r, i, cs, w, hb, hl, hv => by
    have ho := hv v List.mem_cons_self
    simp only [List.length_cons] at hl
    have hadd : (⟨b, off, none⟩ : Addr).add i = ⟨b, off + i, none⟩ := by unfold Addr.add; split <;> simp_all
    have hcell : w.cell? ⟨b, off + i, none⟩ = some cs[off + i] := by simp [World.cell?, hb]
    have hfz : w.frozen? ⟨b, off + i, none⟩ = false := by simp [World.frozen?, hb]
    have hb' : (w.setCell ⟨b, off + i, none⟩ v).heap[b]? = some (.cells (cs.setIfInBounds (off + i) v) e (0, 0)) := by simp [World.setCell, Array.getElem?_modify, hb]
    obtain ⟨H, cs', h1, h2, h3, h4, h5, h6⟩ := run_storeCells_w (off := off) r (i + 1) (cs.setIfInBounds (off + i) v) (w.setCell ⟨b, off + i, none⟩ v) hb' (by simp; omega) (fun u hu => hv u (List.mem_cons_of_mem _ hu))
    refine ⟨H, cs', ?_, by rw [h2]; simp [World.setCell], h3, fun k hk => ?_, by rw [h5]; simp, ?_⟩
    · have : (store ⟨b, off + i, none⟩ v).run P w = .ok () (w.setCell ⟨b, off + i, none⟩ v) := by
        cases v <;> first | (simp [one] at ho; done) | simp [store, Sem.run, hcell, hfz]
      simp only [storeCells, hadd, Sem.run_bind, this, Result.andThen_ok, h1]
      rfl
    · rw [h4 k hk]
      simp only [World.setCell, Array.getElem?_modify]
      rw [if_neg (by omega)]
    · rw [h6]
      simp only [Array.toList_setIfInBounds, List.length_cons]
      have hlt : off + i < cs.toList.length := by simp; omega
      rw [show off + (i + 1) = off + i + 1 by omega, List.take_succ_eq_append_getElem (by simpa using hlt), List.getElem_set_self, List.take_set_of_le (by omega), List.drop_set_of_lt (by omega)]
      simp [Nat.add_assoc, Nat.add_comm 1]
theorem e_stA {t : TypeId} {x y : Operand} {b off m : Nat} {cs vs : Array Value} {e : TypeId} (i : Nat) (ho : o.op = .store t x y) (hd : o.dst = none) (hm : (P.info? t).map (·.size) = some m) (hx : ev F x = some (.pointer (some ⟨b, off, none⟩))) (hy : ev F y = some (.agg vs)) (hv : vs.toList.all one = true) (hs : vs.size = m)
    (hL : L[i]? = some (.b b (.cells cs e (0, 0)))) (hc : Nat.ble (off + m) cs.size = true) : OpE P n w0 I o F L (fun X => X F (L.set i (.b b (.cells (cs.toList.take off ++ vs.toList ++ cs.toList.drop (off + vs.toList.length)).toArray e (0, 0))))) := by
  intro X hX a w hf ht K Q np hK
  have hc' : off + m ≤ cs.size := Nat.le_of_ble_eq_true hc
  obtain ⟨H, cs', h1, h2, h3, h4, h5, h6⟩ := run_storeCells_w (P := P) (off := off) vs.toList 0 cs w (ht.toWS.get hL) (by simp; omega) (fun v hv' => by simpa using (List.all_eq_true.1 hv) v hv')
  have hcs : cs' = (cs.toList.take off ++ vs.toList ++ cs.toList.drop (off + vs.toList.length)).toArray := by
    apply Array.toList_inj.1
    rw [h6]
    simp
  have hr : (execOp a.eval o).run P w = .ok .skip { w with heap := H } := by
    simp only [execOp, ho, hf.ev hx, hf.ev hy, Instr.storeAt, Instr.sureAddr, storeVar, Value.cells, Sem.run_bind, Sem.run_pure, Result.andThen_ok, run_size hm, hs, ne_eq, not_true, if_false, h1]
  unfold Oper.wp
  rw [hr, Oper.upon_skip, hd]
  exact hK _ _ hX _ _ hf (ht.setObj hL h2 (by rw [h3, hcs]) h4)
theorem v_len {c : Call} {t : TypeId} {e : TypeId} {x : Operand} {ad : Option Addr} {len cap : Nat} (ho : o.op = .call c) (hc : c.callee = .builtin .len) (htt : c.argTypes[0]? = some t) (ht : P.underlying t = some (.slice e)) (hx : ev F x = some (.slice ad len cap)) (ha : c.args = #[x]) : OpV P n w0 I o F L (.int .i64 len) := by
  intro a w hf hs
  simp [execOp, ho, resolve, hc, ha, hf.ev hx, invoke, builtin, Builtin.len_, htt, run_underlying ht, goInt]
theorem v_max {c : Call} {k : IntKind} {x y : Operand} {m q : Int} (ho : o.op = .call c) (hc : c.callee = .builtin .max) (hv : evs F c.args.toList = some [.int k m, .int k q]) : OpV P n w0 I o F L (.int k (if m < q then q else m)) := by
  intro a w hf hs
  have e1 : c.args.map a.eval = #[.int k m, .int k q] := by apply Array.toList_inj.1; simpa using hf.evs hv
  simp [execOp, ho, resolve, hc, e1, invoke, builtin, Builtin.max_, Builtin.max2]
end
end Go.Eng
namespace Go.Eng
open Go.RowKit
set_option linter.unusedVariables false
set_option linter.unusedSimpArgs false
variable {P : Program}
theorem rowsIn_wide {l n : Nat} {row : String} {args : Array Value} {w : World} {R : Value → World → Prop} (h : Rows P row args w R) : RowsIn (Fence.wide.inRound l) n P row args w R := by
  intro c cs _
  obtain ⟨v, w', r, s⟩ := h c cs
  refine ⟨v, w', r, ?_⟩
  rw [fenced_inRound]
  exact stepsIn_wide.2 s
theorem oper_round {l n : Nat} {o : Oper} {a : Act} {w : World} {K : Act → World → Prop} {Q : Exit → Act → World → Prop} (hd : ∀ c, o.op ≠ .defer c) (h : o.wp P a w K Q) : o.wpIn (Fence.wide.inRound l) n P a w K Q := by
  refine ⟨fun _ _ => trivial, ?_⟩
  rw [Oper.semAt_eq _ _ _ hd]
  unfold Oper.wp at h
  generalize (execOp a.eval o).run P w = r at h ⊢
  cases r with
  | ok x w' =>
    cases x <;> simp only [Oper.upon] at h <;> simp only [Oper.uponIn] <;> first
      | exact h
      | exact h.elim
      | exact ⟨fun he => by simp [Fence.wide] at he, (callsIn_wide.2 h).inRound l⟩
      | exact ⟨fun he => by simp [Fence.wide] at he, rowsIn_wide h⟩
  | halt x w' => cases x <;> simp only [Oper.upon] at h <;> simp only [Oper.uponIn] <;> first | exact h | exact h.elim
theorem noDefer_spec {ops : Array Oper} (h : noDefer ops = true) {i : Nat} {o : Oper} (hi : ops[i]? = some o) : ∀ c, o.op ≠ .defer c := by
  intro c e
  have := List.all_eq_true.1 h o (by rw [Array.mem_toList_iff]; exact Array.mem_of_getElem? hi)
  rw [e] at this
  cases this
theorem ops_round {l n : Nat} {ops : Array Oper} {Q : Exit → Act → World → Prop} (np : NP Q) (hd : noDefer ops = true) : ∀ (is : List Nat) (a : Act) (w : World), wpOps P ops Q is a w → wpOpsIn (Fence.wide.inRound l) n P ops Q is a w
  | [], a, w, h => h
  | i :: r, a, w, h => by
    simp only [wpOps] at h
    simp only [wpOpsIn]
    cases ho : ops[i]? with
    | none => rw [ho] at h; exact ops_round np hd r a w h
    | some o =>
      rw [ho] at h
      dsimp only at h ⊢
      by_cases hw : Region.wanted o (yielded ops a.tmps) = true
      · rw [if_pos hw] at h ⊢
        rcases h with h | ⟨_, a', w', hq⟩
        · exact oper_round (noDefer_spec hd ho) (Oper.wp_mono (fun a w h => ops_round np hd r a w h) h)
        · exact absurd hq (np.2 _ _)
      · rw [if_neg hw] at h ⊢
        exact ⟨fun _ _ => trivial, ops_round np hd r _ w h⟩
theorem flav_round (l m : Nat) : Flav P (Code.wpIn (Fence.wide.inRound l) m P) where
  seq := wpIn_seq
  cond := wpIn_cond_split
  block := wpIn_block
  skip := wpIn_skip
  ret := wpIn_ret
  exit := wpIn_exit
  ord := fun np hd h => wpIn_region (ops_round np hd _ _ _ h)
  any := fun {i ops Q a w} np hd hm h => wpIn_region_draw fun t => by
    simp only [Region.schedule, hm, Bool.true_or, if_true]
    exact ops_round np hd _ _ _ (wpAny_sound ops.size t _ a _ h)
  loop := fun J n₀ h0 h => wpIn_loop_ghost J n₀ h0 h
theorem flav_wide (m : Nat) : Flav P (Code.wpIn Fence.wide m P) where
  seq := wpIn_seq
  cond := wpIn_cond_split
  block := wpIn_block
  skip := wpIn_skip
  ret := wpIn_ret
  exit := wpIn_exit
  ord := fun np hd h => wpIn_wide.2 ((flav_plain P).ord np hd h)
  any := fun np hd hm h => wpIn_wide.2 ((flav_plain P).any np hd hm h)
  loop := fun J n₀ h0 h => wpIn_loop_ghost J n₀ h0 h
structure KG (n₀ : Nat) (G : List Nat) (A B : World) : Prop where
  os : B.os = A.os
  tape : B.tape = A.tape
  output : B.output = A.output
  size : A.heap.size ≤ B.heap.size
  block : ∀ k, k < n₀ → k ∉ G → B.heap[k]? = A.heap[k]?
theorem KG.refl (n₀ : Nat) (G : List Nat) (A : World) : KG n₀ G A A := ⟨rfl, rfl, rfl, Nat.le_refl _, fun _ _ _ => rfl⟩
theorem KG.trans {n₀ : Nat} {G : List Nat} {A B C : World} (h : KG n₀ G A B) (k : KG n₀ G B C) : KG n₀ G A C :=
  ⟨k.os.trans h.os, k.tape.trans h.tape, k.output.trans h.output, Nat.le_trans h.size k.size, fun i hi hg => (k.block i hi hg).trans (h.block i hi hg)⟩
theorem KG.put {n₀ : Nat} {G : List Nat} (W : World) (l : Nat) (o o' : Obj) (hl : n₀ ≤ l) (hw : W.heap[l]? = some o) : KG n₀ G W (W.putObj l o') := by
  have hg := grownBy_putObj' W l o'
  exact ⟨hg.os, hg.tape, hg.output, hg.size, fun k hk _ => hg.block k (by have := (Array.getElem?_eq_some_iff.1 hw).1; omega) (fun e => by cases e; omega)⟩
def cellsOnly (L : HL) : Prop := ∀ e ∈ L, ∃ n cs t, e = Ent.b n (.cells cs t (0, 0))
def toFact : Ent → Ent
  | .b n o => .f (fun w => w.heap[n]? = some o)
  | .f φ => .f φ
theorem ids_toFact (L : HL) : ids (L.map toFact) = [] := by
  induction L with
  | nil => rfl
  | cons e r ih => cases e <;> exact ih
theorem mem_toFact {L : HL} {φ : World → Prop} (h : Ent.f φ ∈ L.map toFact) : (∃ n o, Ent.b n o ∈ L ∧ φ = fun w => w.heap[n]? = some o) ∨ Ent.f φ ∈ L := by
  obtain ⟨e, he, h⟩ := List.mem_map.1 h
  cases e with
  | b n o => injection h with h; exact .inl ⟨n, o, he, h.symm⟩
  | f ψ => injection h with h; subst h; exact .inr he
def LoopW {σ : Type} (w : World) (G H : List Nat) (Inv : σ → Prop) (Li : σ → HL) (W : World) : Prop := ∃ s, Inv s ∧ Tri w ⟨G, H⟩ W (Li s)
theorem loopW_own {β σ : Type} {w : World} {G H : List Nat} (hG : ∀ g ∈ G, g < w.heap.size) {Inv : β → σ → Prop} {Li : β → σ → HL} (hc : ∀ x s, cellsOnly (Li x s)) : OwnFrom w.heap.size (fun x W => LoopW w G H (Inv x) (Li x) W) := by
  rintro x W W' row ⟨s, hs, ht⟩ hg hr
  refine ⟨s, hs, ?_⟩
  have hid : ∀ n ∈ ids (Li x s), some n ≠ row := by
    intro n hn e
    obtain ⟨hB, o, ho, hnc⟩ := hr n e.symm
    obtain ⟨u, hu⟩ := mem_ids.1 hn
    obtain ⟨n', cs, t, e'⟩ := hc x s _ hu
    injection e' with e1 e2
    subst e1 e2
    rw [ht.at_ n _ hu] at ho
    cases ho
    cases hnc
  refine { os := hg.os.trans ht.os, tape := hg.tape.trans ht.tape, output := hg.output.trans ht.output, size := Nat.le_trans ht.size hg.size, frame := fun b hb hn => ?_, at_ := fun n o hp => ?_, own := ht.own, nodup := ht.nodup, hol := ht.hol, facts := fun φ hφ => ?_ }
  · have := ht.size
    rw [hg.block b (by omega) (fun e => by have := (hr b e.symm).1; omega)]
    exact ht.frame b hb hn
  · have hm := mem_ids.2 ⟨o, hp⟩
    rw [hg.block n (ht.lt hm) (hid n hm)]
    exact ht.at_ n o hp
  · obtain ⟨n', cs, t, e'⟩ := hc x s _ hφ
    cases e'
def RoundEnd {σ : Type} (W : World) (G H : List Nat) (Inv : σ → Prop) (Li : σ → HL) (InvX : Code → σ → Prop) : Exit → Act → World → Prop
  | .normal, _, W' => ∃ s, Inv s ∧ Tri W ⟨G, H⟩ W' (Li s)
  | .ret, _, W' => ∃ s, InvX .ret s ∧ Tri W ⟨G, H⟩ W' (Li s)
  | .exit i, _, W' => ∃ s, InvX (.exit i) s ∧ Tri W ⟨G, H⟩ W' (Li s)
  | _, _, _ => False
theorem np_roundEnd {σ : Type} (W : World) (G H : List Nat) (Inv : σ → Prop) (Li : σ → HL) (InvX : Code → σ → Prop) : NP (RoundEnd W G H Inv Li InvX) := ⟨fun _ _ _ h => h, fun _ _ h => h⟩
def cG : Code → Operand
  | .rangeFunc g _ _ _ => g
  | _ => .const undef
def cPs : Code → Array Tmp
  | .rangeFunc _ ps _ _ => ps
  | _ => #[]
theorem Tri.facts_of {w : World} {G H : List Nat} {W : World} {L Lr : HL} (h : Tri w ⟨G, H⟩ W L) (hf : ∀ φ, Ent.f φ ∈ Lr → Stab (H ++ G) w φ) (hb : ids Lr = []) : Tri w ⟨G, H⟩ W (L ++ Lr) := by
  have hsub : ∀ x ∈ H ++ ids L, x < w.heap.size → x ∈ H ++ G := fun x hx hlt => by
    rcases List.mem_append.1 hx with hx | hx
    · exact List.mem_append_left _ hx
    · rcases h.own x hx with h1 | h1
      · exact List.mem_append_right _ h1
      · omega
  refine { toAgree := h.toAgree, at_ := fun n o hp => ?_, own := by rw [ids_app, hb, List.append_nil]; exact h.own, nodup := by rw [ids_app, hb, List.append_nil]; exact h.nodup, hol := h.hol, facts := fun φ hφ => ?_ }
  · rcases List.mem_append.1 hp with hp | hp
    · exact h.at_ n o hp
    · have : n ∈ ids Lr := mem_ids.2 ⟨o, hp⟩
      rw [hb] at this
      cases this
  · rw [ids_app, hb, List.append_nil]
    rcases List.mem_append.1 hφ with hφ | hφ
    · exact h.facts φ hφ
    · exact (hf φ hφ).on (h.toAgree.mono (fun x hx _ => List.mem_append_right _ hx)) hsub
theorem c_range {α σ : Type} {n : Sz} {w0 : World} {I : Ix} {Q : Exit → Act → World → Prop} {F : FL} {L Lm Lr : HL} {c : Code} {m gf : Nat} {fn : Func} {lb : List Value} (enc : α → Array Value) {ps : Array Tmp} {S Sp : List α → Prop} {N : Nat}
    (idxm idxr : List Nat) (Inv : List α → σ → Prop) (InvX : List α → Code → σ → Prop) (Li : σ → HL) (Fa : α → FL) (s0 : σ)
    (h : cK c = 5) (hg : ev F (cG c) = some (.func (.func gf) #[] lb.toArray)) (hps : cPs c = ps) (hps1 : ∀ x, (enc x).size = ps.size) (hm : 1 ≤ m)
    (hf : P.funcs[gf]? = some fn) (hb : fn.body.isNone = false) (hname : (fn.name == "runtime.NumGoroutine") = false)
    (hpm : pick L idxm = some Lm) (hpr : pick L idxr = some Lr) (hnd : (idxm ++ idxr).Nodup) (hcell : ∀ s, cellsOnly (Li s)) (hs0 : Inv [] s0) (hL0 : Li s0 = Lm)
    (hseq : ∀ w, Tri w0 I w L → SeqStopsK Fence.wide (m - 1) P gf lb.toArray enc (KG w.heap.size (ids Lm)) S Sp N w)
    (hassign : ∀ (l : Nat) (x : α) (a : Act) (W : World) (K : Act → World → Prop), Fr n a F → (∀ a' W', Fr ⟨n.n, []⟩ a' (Fa x ++ F) → Agree [] W W' → K a' W') → (cB c).wpIn (Fence.wide.inRound l) (m - 1 - 1) P (Exit.then K (fun _ _ _ => False)) { tmps := (ps.zip (enc x)).foldl (fun t (p, v) => t.setIfInBounds p v) a.tmps, defers := [] } W)
    (hbody : ∀ (l : Nat) (pre : List α) (x : α) (s : σ) (W : World), Inv pre s → pre.length < N → CW P (Code.wpIn (Fence.wide.inRound l) (m - 1 - 1) P) ⟨n.n, []⟩ W ⟨ids (Li s), I.holes⟩ (cA c) (RoundEnd W (ids (Li s)) I.holes (Inv (pre ++ [x])) Li (InvX (pre ++ [x]))) (Fa x ++ F) (Li s ++ Lr.map toFact))
    (hdone : ∀ (D : Nat) (xs : List α) (s : σ), S xs → Inv xs s → QW P (Code.wpIn Fence.wide m P) ⟨n.n, { target := .collected D, args := #[] } :: n.ds⟩ w0 I .normal Q F (.b D (.deferred (some [])) :: Li s ++ Lr))
    (hstop : ∀ (D : Nat) (c : Code) (pre : List α) (s : σ), Sp pre → InvX pre c s → CW P (Code.wpIn Fence.wide m P) ⟨n.n, { target := .collected D, args := #[] } :: n.ds⟩ w0 I c Q F (.b D (.deferred (some [])) :: Li s ++ Lr)) :
    CW P (Code.wpIn Fence.wide m P) n w0 I c Q F L := by
  intro fl np a w hfr ht
  have h12 : ∀ p ∈ Lm ++ Lr, p ∈ L := mem_pick (pick_app hpm hpr)
  have hndL := pick_nodup ht.nodup (pick_app hpm hpr) hnd
  have hnd2 := hndL
  rw [ids_app, List.nodup_append] at hnd2
  have hmL : ∀ n ∈ ids Lm, n ∈ ids L := fun n hn => by obtain ⟨o, ho⟩ := mem_ids.1 hn; exact mem_ids.2 ⟨o, h12 _ (List.mem_append_left _ ho)⟩
  have hrL : ∀ n ∈ ids Lr, n ∈ ids L := fun n hn => by obtain ⟨o, ho⟩ := mem_ids.1 hn; exact mem_ids.2 ⟨o, h12 _ (List.mem_append_right _ ho)⟩
  have hmlt : ∀ n ∈ ids Lm, n < w.heap.size := fun n hn => ht.lt (hmL n hn)
  have hfacts : ∀ φ, Ent.f φ ∈ Lr.map toFact → Stab (I.holes ++ ids Lm) w φ := by
    intro φ hφ
    rcases mem_toFact hφ with ⟨k, o, hk, rfl⟩ | hk
    · intro w' ha
      have hkr : k ∈ ids Lr := mem_ids.2 ⟨o, hk⟩
      have hget := ht.at_ k o (h12 _ (List.mem_append_right _ hk))
      refine (ha.frame k (ht.lt (hrL k hkr)) (fun hm' => ?_)).trans hget
      rcases List.mem_append.1 hm' with h1 | h1
      · have h2 := ht.hol k h1
        rcases ht.own k (hrL k hkr) with h3 | h3
        · exact h2.2 h3
        · omega
      · exact hnd2.2.2 k h1 k hkr rfl
    · exact (ht.facts φ (h12 _ (List.mem_append_right _ hk))).mono (fun x hx _ => by
        rcases List.mem_append.1 hx with hx | hx
        · exact List.mem_append_left _ hx
        · exact List.mem_append_right _ (hmL x hx))
  have hstart : Tri w ⟨ids Lm, I.holes⟩ w (Li s0) := by
    rw [hL0]
    have hh := ht.here h12 hndL
    refine { toAgree := Agree.refl _ _, at_ := hh.at_, own := hh.own, nodup := hh.nodup, facts := fun φ hφ => ?_, hol := fun n hn => ?_ }
    · obtain ⟨_, _, _, e⟩ := hcell s0 _ (hL0 ▸ hφ)
      cases e
    · exact hh.hol n (List.mem_append_left _ hn)
  have hc : c = .rangeFunc (cG c) (cPs c) (cB c) (cA c) := by cases c <;> first | (simp [cK] at h; done) | rfl | (rename_i d; cases d <;> first | rfl | (simp [cK] at h; done))
  -- what a world behind the loop is for the caller
  have hback : ∀ (D : Nat) (s : σ) (W : World), w.heap.size ≤ D → W.heap[D]? = some (.deferred (some [])) → Tri w ⟨ids Lm, I.holes⟩ W (Li s) → Tri w0 I W (.b D (.deferred (some [])) :: Li s ++ Lr) := by
    intro D s W hD hDg htW
    have hholes : ∀ n ∈ ids Lr, n ∉ ids (Li s) := fun n hn hm' => by
      rcases htW.own n hm' with h1 | h1
      · exact hnd2.2.2 n h1 n hn rfl
      · have := ht.lt (hrL n hn); omega
    have h1 : Tri w ⟨ids Lm, I.holes ++ ids Lr⟩ W (Li s) :=
      { toAgree := htW.toAgree, at_ := htW.at_, own := htW.own, nodup := htW.nodup,
        facts := fun φ hφ => (by obtain ⟨_, _, _, e⟩ := hcell s _ hφ; cases e),
        hol := fun n hn => by
          rcases List.mem_append.1 hn with hn | hn
          · exact htW.hol n hn
          · exact ⟨ht.lt (hrL n hn), fun h2 => hnd2.2.2 n h2 n hn rfl⟩ }
    have h2 := ht.trans h12 hndL h1
    have hDn : D ∉ ids (Li s ++ Lr) := by
      rw [ids_app]
      intro hm'
      rcases List.mem_append.1 hm' with h3 | h3
      · obtain ⟨o, ho⟩ := mem_ids.1 h3
        obtain ⟨_, cs, t, e⟩ := hcell s _ ho
        injection e with e1 e2
        rw [htW.at_ D o ho, e2] at hDg
        cases hDg
      · have := ht.lt (hrL D h3); omega
    refine { toAgree := h2.toAgree, at_ := fun k o hp => ?_, own := fun k hk => ?_, nodup := ?_, hol := h2.hol, facts := fun φ hφ => ?_ }
    · rw [List.cons_append] at hp
      rcases List.mem_cons.1 hp with hp | hp
      · injection hp with e1 e2; subst e1 e2; exact hDg
      · exact h2.at_ k o hp
    · rw [List.cons_append, ids_b] at hk
      rcases List.mem_cons.1 hk with rfl | hk
      · have := ht.size; exact .inr (by omega)
      · exact h2.own k hk
    · rw [List.cons_append, ids_b, List.nodup_cons]
      exact ⟨hDn, h2.nodup⟩
    · rw [List.cons_append] at hφ
      have hφ' : Ent.f φ ∈ Lr := by
        rcases List.mem_cons.1 hφ with hφ | hφ
        · cases hφ
        · rcases List.mem_append.1 hφ with hφ | hφ
          · obtain ⟨_, _, _, e⟩ := hcell s _ hφ; cases e
          · exact hφ
      rw [List.cons_append, ids_b]
      refine (ht.facts φ (h12 _ (List.mem_append_right _ hφ'))).on (htW.toAgree.mono (fun x hx _ => List.mem_append_right _ (hmL x hx))) (fun x hx hlt => ?_)
      rcases List.mem_append.1 hx with hx | hx
      · exact List.mem_append_left _ hx
      · rcases List.mem_cons.1 hx with rfl | hx
        · omega
        · rw [ids_app] at hx
          rcases List.mem_append.1 hx with hx | hx
          · rcases htW.own x hx with h3 | h3
            · exact List.mem_append_right _ (hmL x h3)
            · omega
          · exact List.mem_append_right _ (hrL x hx)
  rw [hc]
  refine wpIn_rangeFunc_ownH (I := fun pre W => LoopW w (ids Lm) I.holes (Inv pre) Li W) (Ix := fun c pre W => LoopW w (ids Lm) I.holes (InvX pre c) Li W) (Ax := fun x a' _ => Fr ⟨n.n, []⟩ a' (Fa x ++ F)) (w0 := w) rfl hm (hfr.ev hg) trivial (fun args w => run_callFunc hf hb hname args w) (hseq w ht)
    (fun h1 h2 => h1.trans h2) (fun W l o o' hl hw _ _ => KG.put W l o o' hl hw) (Below.refl _ _) (fun x => by rw [hps]; exact hps1 x)
    (loopW_own hmlt (fun _ s => hcell s)) (fun c => loopW_own hmlt (fun _ s => hcell s)) ⟨s0, hs0, hstart⟩ (fun x a' => ownFrom_pure _ (fun (_ : Unit) => Fr ⟨n.n, []⟩ a' (Fa x ++ F))) ?_ ?_ ?_ ?_
  · intro l pre x W K hI hK
    rw [hps]
    obtain ⟨s, hs, htW⟩ := hI
    exact hassign l x a W K hfr (fun a' W' ha' hag => hK a' W' ⟨hag.size, fun k o _ hk _ => (hag.frame k (Array.getElem?_eq_some_iff.1 hk).1 (by simp)).trans hk⟩
      ⟨hag.os, hag.tape, hag.output, hag.size, fun k hk _ => hag.frame k (by have := htW.size; omega) (by simp)⟩ ⟨s, hs, htW.of_below hag.below⟩ ha')
  · rintro l pre x a' W hl hr ⟨s, hs, htW⟩ ha' hlen
    have hb0 : Tri W ⟨ids (Li s), I.holes⟩ W (Li s ++ Lr.map toFact) := by
      have h1 : Tri W ⟨ids (Li s), I.holes⟩ W (Li s) :=
        { toAgree := Agree.refl _ _, at_ := htW.at_, own := fun n hn => .inl hn, nodup := htW.nodup, facts := fun φ hφ => (by obtain ⟨_, _, _, e⟩ := hcell s _ hφ; cases e),
          hol := fun n hn => by
            have h2 := htW.hol n hn
            refine ⟨Nat.lt_of_lt_of_le h2.1 htW.size, fun h3 => ?_⟩
            rcases htW.own n h3 with h4 | h4
            · exact h2.2 h4
            · omega }
      refine h1.facts_of (fun φ hφ => ?_) (ids_toFact Lr)
      refine (hfacts φ hφ).on (htW.toAgree.mono (fun x hx _ => List.mem_append_right _ hx)) (fun x hx hlt => ?_)
      rcases List.mem_append.1 hx with hx | hx
      · exact List.mem_append_left _ hx
      · rcases htW.own x hx with h3 | h3
        · exact List.mem_append_right _ h3
        · omega
    have key := hbody l pre x s W hs hlen (flav_round l _) (np_roundEnd _ _ _ _ _ _) a' W ha' hb0
    have hcomp : ∀ (W' : World) (s' : σ), Tri W ⟨ids (Li s), I.holes⟩ W' (Li s') → Tri w ⟨ids Lm, I.holes⟩ W' (Li s') ∧ KeepsFrom w.heap.size W W' ∧ KG w.heap.size (ids Lm) W W' := by
      intro W' s' h'
      have hA : Tri w ⟨ids Lm, I.holes⟩ W' (Li s' ++ []) := htW.trans (L1 := Li s) (L2 := []) (fun p hp => by simpa using hp) (by rw [List.append_nil]; exact htW.nodup) (by simpa [ids] using h')
      rw [List.append_nil] at hA
      refine ⟨hA, ⟨h'.size, fun k o _ hk ho => ?_⟩, ⟨h'.os, h'.tape, h'.output, h'.size, fun k hk hn => ?_⟩⟩
      · refine (h'.frame k (Array.getElem?_eq_some_iff.1 hk).1 (fun hm' => ?_)).trans hk
        obtain ⟨u, hu⟩ := mem_ids.1 hm'
        obtain ⟨_, cs, t, e⟩ := hcell s _ hu
        injection e with e1 e2
        rw [htW.at_ k u hu, e2] at hk
        cases hk
        cases ho
      · refine h'.frame k (by have := htW.size; omega) (fun hm' => ?_)
        rcases htW.own k hm' with h1 | h1
        · exact hn h1
        · omega
    refine wpIn_mono key (fun e a'' W' hq => ?_)
    cases e with
    | normal => obtain ⟨s', h1, h2⟩ := hq; obtain ⟨h3, h4, h5⟩ := hcomp W' s' h2; exact ⟨h4, h5, s', h1, h3⟩
    | ret => obtain ⟨s', h1, h2⟩ := hq; obtain ⟨h3, h4, h5⟩ := hcomp W' s' h2; exact ⟨h4, s', h1, h3⟩
    | exit i => obtain ⟨s', h1, h2⟩ := hq; obtain ⟨h3, h4, h5⟩ := hcomp W' s' h2; exact ⟨h4, s', h1, h3⟩
    | goto i => exact hq.elim
    | panic ch => exact hq.elim
    | outgrown => exact hq.elim
  · rintro D xs W hD hS ⟨s, hs, htW⟩ hDg
    exact hdone D xs s hS hs fl np _ W ⟨hfr.size, by rw [hfr.defers], hfr.at_⟩ (hback D s W hD hDg htW)
  · rintro D cx pre W hD hSp ⟨s, hs, htW⟩ hDg
    exact hstop D cx pre s hSp hs fl np _ W ⟨hfr.size, by rw [hfr.defers], hfr.at_⟩ (hback D s W hD hDg htW)
theorem fr_params {n : Sz} {a : Act} {F : FL} (h : Fr n a F) {p : Tmp} {v : Value} (hp : Nat.blt p n.n = true) : Fr ⟨n.n, []⟩ { tmps := ((#[p] : Array Tmp).zip #[v]).foldl (fun t (p, v) => t.setIfInBounds p v) a.tmps, defers := [] } ((p, v) :: F) := by
  have h1 := (Fr.mk (n := ⟨n.n, []⟩) (a := { a with defers := [] }) h.size rfl h.at_).put (blt_lt hp) v
  have e : ((#[p] : Array Tmp).zip #[v]).foldl (fun t (p, v) => t.setIfInBounds p v) a.tmps = a.tmps.setIfInBounds p v := by simp
  rw [e]
  exact h1
theorem q_assigned {W : Code → (Exit → Act → World → Prop) → Act → World → Prop} {n : Sz} {w0 : World} {F F1 : FL} {L : HL} (hs : ∀ j v, look F1 j = some v → look F j = some v) : QW P W n w0 ⟨[], []⟩ .normal (Exit.then (fun a' w' => Fr n a' F1 ∧ Agree [] w0 w') (fun _ _ _ => False)) F L := fun _ _ a w hf ht => ⟨hf.sub hs, ht.toAgree⟩
theorem q_round {σ : Type} {V : Code → (Exit → Act → World → Prop) → Act → World → Prop} {n : Sz} {W0 : World} {G H : List Nat} {Inv : σ → Prop} {Li : σ → HL} {InvX : Code → σ → Prop} {F : FL} {L L' : HL} (s' : σ) (idx : List Nat) (hp : pick L idx = some L') (hL : L' = Li s') (hi : idx.Nodup) (hs : Inv s') : QW P V n W0 ⟨G, H⟩ .normal (RoundEnd W0 G H Inv Li InvX) F L :=
  fun _ _ a w hf ht => ⟨s', hs, hL ▸ ht.pick (mem_pick hp) (pick_nodup ht.nodup hp hi)⟩
theorem q_round_ret {σ : Type} {V : Code → (Exit → Act → World → Prop) → Act → World → Prop} {n : Sz} {W0 : World} {G H : List Nat} {Inv : σ → Prop} {Li : σ → HL} {InvX : Code → σ → Prop} {F : FL} {L L' : HL} (s' : σ) (idx : List Nat) (hp : pick L idx = some L') (hL : L' = Li s') (hi : idx.Nodup) (hs : InvX .ret s') : QW P V n W0 ⟨G, H⟩ .ret (RoundEnd W0 G H Inv Li InvX) F L :=
  fun _ _ a w hf ht => ⟨s', hs, hL ▸ ht.pick (mem_pick hp) (pick_nodup ht.nodup hp hi)⟩
theorem q_round_exit {σ : Type} {V : Code → (Exit → Act → World → Prop) → Act → World → Prop} {n : Sz} {W0 : World} {G H : List Nat} {Inv : σ → Prop} {Li : σ → HL} {InvX : Code → σ → Prop} {F : FL} {L L' : HL} {i : Nat} (s' : σ) (idx : List Nat) (hp : pick L idx = some L') (hL : L' = Li s') (hi : idx.Nodup) (hs : InvX (.exit i) s') : QW P V n W0 ⟨G, H⟩ (.exit i) (RoundEnd W0 G H Inv Li InvX) F L :=
  fun _ _ a w hf ht => ⟨s', hs, hL ▸ ht.pick (mem_pick hp) (pick_nodup ht.nodup hp hi)⟩
theorem assign_one {l m : Nat} {n : Sz} {F F1 : FL} {c : Code} {W : World} {K : Act → World → Prop} {a : Act} (hf : Fr n a F) (hk : ∀ a' W', Fr n a' F1 → Agree [] W W' → K a' W') (h : CW P (Code.wpIn (Fence.wide.inRound l) m P) n W ⟨[], []⟩ c (Exit.then (fun a' w' => Fr n a' F1 ∧ Agree [] W w') (fun _ _ _ => False)) F []) : c.wpIn (Fence.wide.inRound l) m P (Exit.then K (fun _ _ _ => False)) a W := by
  refine wpIn_mono (h (flav_round l m) ⟨fun _ _ _ h => h, fun _ _ h => h⟩ a W hf (Tri.nil W)) (fun e a' w' hq => ?_)
  cases e with
  | normal => exact hk a' w' hq.1 hq.2
  | _ => exact hq
inductive RV (P : Program) (F : FL) (L : HL) : List ResultVar → List Value → Prop where
  | nil : RV P F L [] []
  | tmp {t : Tmp} {r : List ResultVar} {v : Value} {vs : List Value} : look F t = some v → RV P F L r vs → RV P F L (.tmp t :: r) (v :: vs)
  | cell {x : Tmp} {t : TypeId} {d : TypeDesc} {b off : Nat} {cs : Array Value} {e : TypeId} {fz : Nat × Nat} {r : List ResultVar} {v : Value} {vs : List Value} (i : Nat) : look F x = some (.pointer (some ⟨b, off, none⟩)) → P.underlying t = some d → notAgg d = true → L[i]? = some (.b b (.cells cs e fz)) → cs[off]? = some v → RV P F L r vs → RV P F L (.cell x t :: r) (v :: vs)
  | agg {x : Tmp} {t : TypeId} {d : TypeDesc} {b off m : Nat} {cs : Array Value} {e : TypeId} {fz : Nat × Nat} {r : List ResultVar} {vs : List Value} (us : List Value) (i : Nat) : look F x = some (.pointer (some ⟨b, off, none⟩)) → P.underlying t = some d → notAgg d = false → (P.info? t).map (·.size) = some m → L[i]? = some (.b b (.cells cs e fz)) → us.length = m → (cs.toList.drop off).take m = us → RV P F L r vs → RV P F L (.cell x t :: r) (.agg us.toArray :: vs)
theorem results_rv {fn : Func} {n : Sz} {a : Act} {w0 w : World} {I : Ix} {F : FL} {L : HL} {rs : List ResultVar} {vs : List Value} (hr : fn.results = rs.toArray) (h : RV P F L rs vs) (hf : Fr n a F) (hw : WS w0 I w L) : (results fn a.tmps).run P w = .ok (packV vs) w := by
  have key : ∀ {rs : List ResultVar} {vs : List Value}, RV P F L rs vs → (rs.mapM (m := Sem) fun | .tmp t => pure (a.tmps.getD t undef) | .cell x t => do loadVar t (← asAddr (a.tmps.getD x undef))).run P w = .ok vs w := by
    intro rs vs h
    induction h with
    | nil => simp
    | tmp h1 _ ih =>
      simp only [List.mapM_cons, Sem.run_bind, Sem.run_pure, Result.andThen_ok, hf.at_ _ _ h1, ih]
    | @cell x t d b off cs e fz r v vs i h1 ht hd hL hc _ ih =>
      have hcell := (hw.cell hL _).trans hc
      have hone : (do loadVar t (← asAddr (a.tmps.getD x undef)) : Sem Value).run P w = .ok v w := by
        simp only [Sem.run_bind, Sem.run_pure, Result.andThen_ok, hf.at_ _ _ h1, asAddr, loadVar, run_isAgg0 ht hd, if_false, Bool.false_eq_true, run_load hcell]
      rw [List.mapM_cons, Sem.run_bind]
      refine (congrArg (fun r => Result.andThen r _) hone).trans ?_
      simp only [Sem.run_bind, Sem.run_pure, Result.andThen_ok, ih]
    | @agg x t d b off m cs e fz r vs us i h1 ht hd hm hL hl hc _ ih =>
      have h2 : ∀ j v, us[j]? = some v → w.cell? ⟨b, off + j, none⟩ = some v := by
        intro j v hv
        rw [hw.cell hL]
        rw [← hc, List.getElem?_take] at hv
        split at hv
        · rw [List.getElem?_drop] at hv
          simpa using hv
        · cases hv
      have h3 := run_cells (P := P) (w := w) h2
      rw [hl] at h3
      have hone : (do loadVar t (← asAddr (a.tmps.getD x undef)) : Sem Value).run P w = .ok (.agg us.toArray) w := by
        simp only [Sem.run_bind, Sem.run_pure, Result.andThen_ok, hf.at_ _ _ h1, asAddr, loadVar, run_isAgg1 ht hd, if_true, run_size hm, h3]
      rw [List.mapM_cons, Sem.run_bind]
      refine (congrArg (fun r => Result.andThen r _) hone).trans ?_
      simp only [Sem.run_bind, Sem.run_pure, Result.andThen_ok, ih]
  have k := key h
  have hm : (fn.results.mapM (m := Sem) fun | .tmp t => pure (a.tmps.getD t undef) | .cell x t => do loadVar t (← asAddr (a.tmps.getD x undef))).run P w = .ok vs.toArray w := by
    rw [hr]
    simp only [List.mapM_toArray, Sem.run_map, k, Result.andThen_ok]
  unfold results
  rw [Sem.run_bind]
  refine (congrArg (fun r => Result.andThen r _) hm).trans ?_
  simp only [Result.andThen_ok]
  match vs with
  | [] => simp [packV]
  | [v] => simp [packV]
  | u :: v :: r => simp [packV]
def PostM (k : Nat) (P : Program) (fn : Func) (R : Ending → World → Prop) : Exit → Act → World → Prop
  | .normal, a, w => LeavesInM Fence.wide k P fn a.tmps R a.defers .returning w
  | .ret, a, w => LeavesInM Fence.wide k P fn a.tmps R a.defers .returning w
  | _, _, _ => False
section
variable {W : Code → (Exit → Act → World → Prop) → Act → World → Prop} {w0 : World} {I : Ix} {F : FL} {L : HL}
theorem q_ret {m : Nat} {fn : Func} {X : Value → HL → Prop} {rs : List ResultVar} {vs : List Value} (hr : fn.results = rs.toArray) (h : RV P F L rs vs) {L' : HL} (idx : List Nat) (hp : pick L idx = some L') (hi : idx.Nodup) (hX : X (packV vs) L') : QW P W ⟨m, []⟩ w0 I .ret (bodyPost P fn (Post X w0 I)) F L :=
  fun fl np a w hf ht => ⟨hf.defers, _, results_rv hr h hf ht.toWS, _, _, rfl, hX, ht.pick (mem_pick hp) (pick_nodup ht.nodup hp hi)⟩
theorem q_retM {m k : Nat} {fn : Func} {X : Value → HL → Prop} {rs : List ResultVar} {vs : List Value} {e : Exit} (he : e = .ret ∨ e = .normal) (hr : fn.results = rs.toArray) (h : RV P F L rs vs) {L' : HL} (idx : List Nat) (hp : pick L idx = some L') (hi : idx.Nodup) (hX : X (packV vs) L') : QW P W ⟨m, []⟩ w0 I e (PostM k P fn (Post X w0 I)) F L := by
  intro fl np a w hf ht
  have key : LeavesInM Fence.wide k P fn a.tmps (Post X w0 I) a.defers .returning w := by
    rw [hf.defers]
    exact ⟨_, results_rv hr h hf ht.toWS, _, _, rfl, hX, ht.pick (mem_pick hp) (pick_nodup ht.nodup hp hi)⟩
  rcases he with rfl | rfl <;> exact key
theorem q_retM1 {m k D : Nat} {fn : Func} {X : Value → HL → Prop} {rs : List ResultVar} {vs : List Value} {e : Exit} (he : e = .ret ∨ e = .normal) (hr : fn.results = rs.toArray) (h : RV P F L rs vs) {L' : HL} (idx : List Nat) (hp : pick L idx = some L') (hi : idx.Nodup) (hX : X (packV vs) L') : QW P W ⟨m, [{ target := .collected D, args := #[] }]⟩ w0 I e (PostM k P fn (Post X w0 I)) F (.b D (.deferred (some [])) :: L) := by
  intro fl np a w hf ht
  have hK : w.heap[D]? = some (.deferred (some [])) := ht.at_ D _ List.mem_cons_self
  have hlt := (Array.getElem?_eq_some_iff.1 hK).1
  have ht1 : Tri w0 I (w.putObj D (.deferred none)) (.b D (.deferred none) :: L) := by
    have hg := grownBy_putObj' w D (.deferred none)
    exact ht.setObj (i := 0) (o := .deferred (some [])) rfl (H := (w.putObj D (.deferred none)).heap) (by simp [World.putObj]) (by simp [World.putObj, hlt]) (fun j hj => by
      simp only [World.putObj]
      rw [Array.getElem?_setIfInBounds_ne (fun e => hj e.symm)])
  have ht2 : Tri w0 I (w.putObj D (.deferred none)) L := ht1.pick (fun p hp => List.mem_cons_of_mem _ hp) (by have := ht1.nodup; rw [ids_b, List.nodup_cons] at this; exact this.2)
  have key : LeavesInM Fence.wide k P fn a.tmps (Post X w0 I) a.defers .returning w := by
    rw [hf.defers]
    refine ⟨by simp, .inl ⟨_, _, rfl, run_takeDeferred hK, ?_⟩⟩
    exact ⟨_, results_rv hr h hf ht2.toWS, _, _, rfl, hX, ht2.pick (mem_pick hp) (pick_nodup ht2.nodup hp hi)⟩
  rcases he with rfl | rfl <;> exact key
theorem con_enterM {H : List Nat} {c : Code} {k : Nat} {f : FuncId} {fn : Func} {args : Array Value} {C : (Value → HL → Prop) → Prop} (hf : P.funcs[f]? = some fn) (hb : fn.body = some c) {m : Nat} (hm : fn.ntmps = m) (ha : Nat.ble args.size m = true) {F0 : FL} (hF : enumF 0 args.toList = F0)
    (kk : ∀ X, C X → Tri w0 ⟨ids L, H⟩ w0 L → CW P (Code.wpIn Fence.wide k P) ⟨m, []⟩ w0 ⟨ids L, H⟩ c (PostM k P fn (Post X w0 ⟨ids L, H⟩)) F0 L) : Con P f args w0 H L C := by
  intro ht X hX
  have ha' : args.size ≤ m := by simpa using Nat.le_of_ble_eq_true ha
  subst hm hF
  refine (callsIn_wide (n := k)).1 (callsIn_of_wp_marks hf hb trivial (wpIn_mono (kk X hX ht (flav_wide k) ⟨fun _ _ _ h => h, fun _ _ h => h⟩ _ _ ⟨by simp; omega, rfl, fun j v hv => ?_⟩ ht) (fun e a w hq => by cases e <;> first | exact hq | exact hq.elim)) rfl)
  · obtain ⟨_, h2⟩ := look_enumF 0 args.toList j v hv
    rw [Nat.sub_zero] at h2
    have hlt : j < args.size := by
      have := (List.getElem?_eq_some_iff.1 h2).1
      simpa using this
    show (args ++ Array.replicate (fn.ntmps - args.size) undef).getD j undef = v
    rw [Array.getD_eq_getD_getElem?, Array.getElem?_append_left hlt]
    rw [Array.getElem?_toList] at h2
    rw [h2]
    rfl
end
end Go.Eng
namespace Go.Eng
open Go.RowKit Go.Proofs.YtiihjijmmephlaaW.PrintWords
set_option linter.unusedVariables false
set_option linter.unusedSimpArgs false
def KC {α : Type} (d : Kd α) (A : Option Addr) (c : Nat) (l : List α) : World → Prop := fun w => Kd.C d w A l.length l ∧ l.length ≤ c
def FreshF (B : Nat) (w : World) (φ : World → Prop) : Prop := ∀ w', w'.os = w.os → w'.tape = w.tape → w'.output = w.output → w.heap.size ≤ w'.heap.size → (∀ b, B ≤ b → b < w.heap.size → w'.heap[b]? = w.heap[b]?) → φ w'
theorem FreshF.stab {B : Nat} {w : World} {φ : World → Prop} (h : FreshF B w φ) {H : List Nat} (hH : ∀ x ∈ H, x < B) : Stab H w φ := fun w' ha =>
  h w' ha.os ha.tape ha.output ha.size (fun b hb hlt => ha.frame b hlt (fun hm => by have := hH b hm; omega))
theorem R_fresh {α : Type} {d : Kd α} {e base : Nat} {ok : Nat → Prop} {w : World} {v : Value} {xs : List α} (h : d.R e w base ok v xs) : ∃ A c, v = .slice A xs.length c ∧ FreshF base w (KC d A c xs) := by
  obtain ⟨A, c, rfl, hlc, _⟩ := Kd.R_reads h
  refine ⟨A, c, rfl, fun w' _ _ _ _ hag => ?_⟩
  have h1 := Kd.R_step (w1 := w') (Kd.R_bound h) (fun k hk hlt => hag k hk.2.1 hlt)
  exact ⟨(Kd.R_reads' h1).2.2, hlc⟩
theorem C_stab {α : Type} {d : Kd α} {w : World} {A : Option Addr} {c : Nat} {l : List α} (h : Kd.C d w A l.length l) (hc : l.length ≤ c) : Stab [] w (KC d A c l) := fun w' ha => ⟨Kd.C_below h ha.below, hc⟩
theorem KC_own {k : IntKind} {g cap e : Nat} {cur : Array Value} {xs : List Int} (htk : cur.toList.take (xs.length * 1) = xs.map (Value.int k)) (hc : xs.length ≤ cap) (hm : cap ≤ maxLen) (w : World) (h : w.heap[g]? = some (.cells cur e (0, 0))) : KC (Kd.int k) (some ⟨g, 0, none⟩) cap xs w := by
  refine ⟨Kd.C_of_reads (d := 0) ⟨rfl, by simp only [maxLen] at hm; omega, fun _ => ⟨_, rfl, fun j hj => ?_⟩⟩, hc⟩
  have h1 : cur[j]? = some (Value.int k (xs.getD j 0)) := by
    have h2 : (cur.toList.take (xs.length * 1))[j]? = (xs.map (Value.int k))[j]? := by rw [htk]
    rw [List.getElem?_take, if_pos (by omega), List.getElem?_map, List.getElem?_eq_getElem hj] at h2
    rw [List.getD_eq_getElem?_getD, List.getElem?_eq_getElem hj]
    simpa using h2
  have e1 : (⟨g, 0, none⟩ : Addr).add j = ⟨g, j, none⟩ := by unfold Addr.add; split <;> simp_all
  rw [e1]
  simp [World.cell?, h, h1]
theorem KC_nil {α : Type} (d : Kd α) (w : World) : KC d none 0 ([] : List α) w := ⟨Kd.C_nil d w, Nat.le_refl _⟩
section
variable {P : Program} {W : Code → (Exit → Act → World → Prop) → Act → World → Prop} {n : Sz} {w0 : World} {I : Ix} {F : FL} {L : HL} {o : Oper} {Q : Exit → Act → World → Prop}
theorem Tri.fact {w : World} (h : Tri w0 I w L) (i : Nat) {φ : World → Prop} (hi : L[i]? = some (.f φ)) : φ w := (h.facts φ (List.mem_of_getElem? hi)).here
theorem ids_facts (fs : List (World → Prop)) : ids (fs.map Ent.f) = [] := by
  induction fs with
  | nil => rfl
  | cons ψ r ih => rw [List.map_cons, ids_f]; exact ih
theorem tri_facts {w w' : World} (h : Tri w0 I w L) (hb : Below w.heap.size w w') (fs : List (World → Prop)) (hf : ∀ φ ∈ fs, FreshF w.heap.size w' φ) : Tri w0 I w' (fs.map Ent.f ++ L) := by
  induction fs with
  | nil => exact h.of_below hb
  | cons φ r ih =>
    have ih' := ih (fun ψ hψ => hf ψ (List.mem_cons_of_mem _ hψ))
    refine ih'.know ?_
    rw [ids_app, ids_facts, List.nil_append]
    refine (hf φ List.mem_cons_self).stab (fun x hx => ?_)
    rcases List.mem_append.1 hx with hx | hx
    · have := (h.hol x hx).1; have := h.size; omega
    · exact h.lt hx
theorem e_callK {γ : Type} {c : Call} {x : Operand} {g : FuncId} {fn : Func} {fst cap : Array Value} {vs : List Value} {d : Nat} (val : γ → Value) (fs : γ → List (World → Prop)) (args : Array Value) (ho : o.op = .call c) (hc : c.callee = .value x) (hx : ev F x = some (.func (.func g) fst cap)) (hv : evs F c.args.toList = some vs) (hargs : fst ++ vs.toArray ++ cap = args)
    (hf : P.funcs[g]? = some fn) (hb : fn.body.isNone = false) (hname : (fn.name == "runtime.NumGoroutine") = false) (hd : o.dst = some d) (hn : Nat.blt d n.n = true)
    (hcon : ∀ w, Tri w0 I w L → Calls P g args w fun e w' => ∃ z : γ, e = .returned (val z) ∧ (∀ φ ∈ fs z, FreshF w.heap.size w' φ) ∧ Below w.heap.size w w') : OpE P n w0 I o F L (fun X => ∀ z, X ((d, val z) :: F) ((fs z).map Ent.f ++ L)) := by
  intro X hX a w hfr ht K Q np hK
  have e1 : c.args.map a.eval = vs.toArray := Array.toList_inj.1 (by simpa using hfr.evs hv)
  have hr : (execOp a.eval o).run P w = .ok (.enter g args) w := by
    simp only [execOp, ho, resolve, hc, e1, hfr.ev hx, Deferred.ofValue, Sem.run_bind, Sem.run_pure, Result.andThen_ok, invoke, hargs, run_callFunc hf hb hname]
  unfold Oper.wp
  rw [hr, Oper.upon_enter]
  refine (hcon w ht).mono ?_
  rintro e w' ⟨z, rfl, hfs, hb'⟩
  show K (a.put o.dst (val z)) w'
  rw [hd]
  exact hK _ _ (hX z) _ _ (hfr.put (blt_lt hn) _) (tri_facts ht hb' _ hfs)
theorem calls_of_con {f : FuncId} {args : Array Value} {w : World} {L : HL} {C : (Value → HL → Prop) → Prop} (h : Con P f args w [] L C) (ht : Tri w ⟨ids L, []⟩ w L) {R : Value → HL → Prop} (hC : C R) : Calls P f args w fun e w' => ∃ v L', e = .returned v ∧ R v L' ∧ Tri w ⟨ids L, []⟩ w' L' := h ht R hC
theorem v_ldf {t : TypeId} {x : Operand} {d : TypeDesc} {ad : Addr} {v : Value} {φ : World → Prop} (i : Nat) (ho : o.op = .load t x) (ht : P.underlying t = some d) (hd : notAgg d = true) (hx : ev F x = some (.pointer (some ad)))
    (hL : L[i]? = some (.f φ)) (hc : ∀ w, φ w → w.cell? ad = some v) : OpV P n w0 I o F L v := by
  intro a w hf hs
  have h1 : w.cell? ad = some v := hc w (hs.fact φ (List.mem_of_getElem? hL))
  simp only [execOp, ho, hf.ev hx, Instr.loadAt, Instr.sureAddr, loadVar, Sem.run_bind, Sem.run_pure, Result.andThen_ok, run_isAgg0 ht hd, if_false, Bool.false_eq_true, run_load h1]
theorem v_ldAf {t : TypeId} {x : Operand} {d : TypeDesc} {ad : Addr} {m : Nat} {φ : World → Prop} (vs : List Value) (i : Nat) (ho : o.op = .load t x) (ht : P.underlying t = some d) (hd : notAgg d = false) (hm : (P.info? t).map (·.size) = some m) (hx : ev F x = some (.pointer (some ad)))
    (hL : L[i]? = some (.f φ)) (hl : vs.length = m) (hc : ∀ w, φ w → ∀ j v, vs[j]? = some v → w.cell? (ad.add j) = some v) : OpV P n w0 I o F L (.agg vs.toArray) := by
  intro a w hf hs
  have h2 := run_loadCells_list (P := P) w ad vs (hc w (hs.fact φ (List.mem_of_getElem? hL)))
  rw [hl] at h2
  simp only [execOp, ho, hf.ev hx, Instr.loadAt, Instr.sureAddr, loadVar, Sem.run_bind, Sem.run_pure, Result.andThen_ok, run_isAgg1 ht hd, if_true, run_size hm, h2]
theorem v_ldr {t : TypeId} {x : Operand} {d : TypeDesc} {b off : Nat} {cs : Array Value} {e : TypeId} {fz : Nat × Nat} {v : Value} (i : Nat) (ho : o.op = .load t x) (ht : P.underlying t = some d) (hd : notAgg d = true) (hx : ev F x = some (.pointer (some ⟨b, off, none⟩)))
    (hL : L[i]? = some (.f (fun w => w.heap[b]? = some (.cells cs e fz)))) (hc : cs[off]? = some v) : OpV P n w0 I o F L v :=
  v_ldf i ho ht hd hx hL (fun w hw => by simp [World.cell?, hw, hc])
theorem v_ldAr {t : TypeId} {x : Operand} {d : TypeDesc} {b off m : Nat} {cs : Array Value} {e : TypeId} {fz : Nat × Nat} (vs : List Value) (i : Nat) (ho : o.op = .load t x) (ht : P.underlying t = some d) (hd : notAgg d = false) (hm : (P.info? t).map (·.size) = some m) (hx : ev F x = some (.pointer (some ⟨b, off, none⟩)))
    (hL : L[i]? = some (.f (fun w => w.heap[b]? = some (.cells cs e fz)))) (hl : vs.length = m) (hc : (cs.toList.drop off).take m = vs) : OpV P n w0 I o F L (.agg vs.toArray) :=
  v_ldAf vs i ho ht hd hm hx hL hl (fun w hw j v hv => by
    have h1 : w.cell? ⟨b, off + j, none⟩ = some v := by
      rw [← hc, List.getElem?_take] at hv
      split at hv
      · rw [List.getElem?_drop] at hv
        have hv' : cs[off + j]? = some v := by simpa using hv
        simp [World.cell?, hw, hv']
      · cases hv
    unfold Addr.add
    split
    · rename_i h0; subst h0; simpa using h1
    · exact h1)
theorem e_bslice {t e : TypeId} {len m : Nat} {ps : Array (Nat × Operand)} {us : List Value} {d : Nat} (cs : Array Value) (z : Value) (ho : o.op = .buildSlice t len ps) (hd : o.dst = some d) (hn : Nat.blt d n.n = true) (ht : P.underlying t = some (.slice e)) (hm : (P.info? e).map (·.size) = some m) (hz : (P.info? e).bind (·.zero) = some z) (hlm : 0 < len * m ∧ len * m ≤ 2 ^ 24)
    (hu : evs F (ps.toList.map (·.2)) = some us) (hc : Instr.fill (fun i => some (i * m, m)) ((Array.range (len * m)).map (z.cells[· % z.cells.size]!)) ((ps.toList.map (·.1)).zip us) = some cs) :
    OpE P n w0 I o F L (fun X => ∀ b, X ((d, .slice (some ⟨b, 0, none⟩) len len) :: F) (.b b (.cells cs e (0, 0)) :: L)) := by
  intro X hX a w hf htr K Q np hK
  obtain ⟨i, hi, hzz⟩ := Option.bind_eq_some_iff.1 hz
  have e1 : (ps.map fun (i, x) => (i, a.eval x)).toList = (ps.toList.map (·.1)).zip us := by
    rw [← hf.evs hu]
    simp [List.zip_map', Function.comp_def]
  have hzv : (zeroValue e).run P w = .ok z w := by
    unfold zeroValue typeInfo
    simp [program, Sem.run, hi, hzz]
  have hr : (execOp a.eval o).run P w = .ok (.value (.slice (some ⟨w.heap.size, 0, none⟩) len len)) { w with heap := w.heap.push (.cells cs e) } := by
    have h1 : ¬ (len * m > 2 ^ 24) := by omega
    have h2 : ¬ (len * m = 0) := by omega
    simp only [execOp, ho, Instr.buildSlice, Sem.run_bind, Sem.run_pure, Result.andThen_ok, run_underlying ht, run_size hm, h1, h2, if_false, hzv, e1, hc]
    simp [newRow, newObj, Sem.run]
  unfold Oper.wp
  rw [hr, Oper.upon_value, hd]
  exact hK _ _ (hX w.heap.size) _ _ (hf.put (blt_lt hn) _) (htr.alloc _)
theorem e_app_nil {t e : TypeId} {c : Call} {x y : Operand} {z : Value} {m bytes k cp d i : Nat} {b off : Nat} {cs news : List Value} {ee : TypeId} (ho : o.op = .call c) (hc : c.callee = .builtin .append) (hca : c.args = #[x, y]) (hct : c.argTypes = #[t, t]) (hd : o.dst = some d) (hn : Nat.blt d n.n = true)
    (ht : P.underlying t = some (.slice e)) (hi : (P.info? e).map (fun i => (i.zero, i.size, i.bytes)) = some (some z, m, bytes)) (hz : z.cells.size = m) (hm : 0 < m)
    (hx : ev F x = some (.slice none 0 0)) (hy : ev F y = some (.slice (some ⟨b, off, none⟩) k cp)) (hL : L[i]? = some (.b b (.cells cs.toArray ee (0, 0)))) (hnews : (cs.drop off).take (k * m) = news) (hnl : news.length = k * m) (hone : ∀ u ∈ news, u.oneCell' = true) (hk : 0 < k) (hkb : k * bytes ≤ 140737488355328) (hkm : k ≤ maxLen) :
    OpE P n w0 I o F L (fun X => ∀ g cap cur, k ≤ cap → cap ≤ maxLen → cur.size = cap * m → cur.toList.take (k * m) = news → X ((d, .slice (some ⟨g, 0, none⟩) k cap) :: F) (.b g (.cells cur e (0, 0)) :: L)) := by
  intro X hX a w hf htr K Q np hK
  obtain ⟨inf, hinf, hz'⟩ := Option.map_eq_some_iff.1 hi
  simp only [Prod.mk.injEq] at hz'
  have hown : w.ownsRow w.heap.size e m (.slice none 0 0) 0 [] := ⟨by simp, .inl ⟨rfl, rfl⟩⟩
  have hcell : ∀ j u, news[j]? = some u → w.cell? ((⟨b, off, none⟩ : Addr).add j) = some u := by
    intro j u hu
    have h1 : w.cell? ⟨b, off + j, none⟩ = some u := by
      rw [htr.toWS.cell hL]
      rw [← hnews, List.getElem?_take] at hu
      split at hu
      · rw [List.getElem?_drop] at hu; simpa using hu
      · cases hu
    unfold Addr.add
    split
    · rename_i h0; subst h0; simpa using h1
    · exact h1
  obtain ⟨v', w', hrun, hrow, hgrow, hnil⟩ := run_append_own (P := P) w w.heap.size t o.type e inf z m bytes ht hinf hz'.1 hz'.2.1 hz'.2.2 hz hm (.slice none 0 0) 0 [] hown ⟨b, off, none⟩ k cp news hnl hcell hone (by omega) (by rw [Nat.zero_add]; exact hkb) (Nat.le_refl _)
  have hr : (execOp a.eval o).run P w = .ok (.value v') w' := by
    simp only [execOp, ho, resolve, hc, hca, hct, Sem.run_bind, Sem.run_pure, Result.andThen_ok, invoke, builtin, List.map_toArray, List.map_cons, List.map_nil, hf.ev hx, hf.ev hy, hrun]
  obtain ⟨hl, hcase⟩ := hrow
  rcases hcase with ⟨rfl, h0⟩ | ⟨g, cap, cur, rfl, hg, hgh, hnc, hcm, hsz, htk⟩
  · omega
  · unfold Oper.wp
    rw [hr, Oper.upon_value, hd]
    simp only [Nat.zero_add, List.nil_append] at hnc htk ⊢
    refine hK _ _ (hX g cap cur hnc hcm hsz htk) _ _ (hf.put (blt_lt hn) _) ?_
    have hbel : Below w.heap.size w w' := ⟨hgrow.os, hgrow.tape, hgrow.output, hgrow.size, fun j hj => hgrow.block j hj (by simp [Value.ownBlock])⟩
    have h1 := htr.of_below hbel
    have hgn : g ∉ ids L := fun hm' => by have := htr.lt hm'; omega
    refine { toAgree := h1.toAgree, at_ := fun j o' hp => ?_, own := fun j hj => ?_, nodup := by rw [ids_b, List.nodup_cons]; exact ⟨hgn, h1.nodup⟩, hol := h1.hol, facts := fun φ hφ => ?_ }
    · rcases List.mem_cons.1 hp with hp | hp
      · injection hp with e1 e2; subst e1 e2; exact hgh
      · exact h1.at_ j o' hp
    · rw [ids_b] at hj
      rcases List.mem_cons.1 hj with rfl | hj
      · have := htr.size; exact .inr (by omega)
      · exact h1.own j hj
    · have hφ' : Ent.f φ ∈ L := by
        rcases List.mem_cons.1 hφ with hφ | hφ
        · cases hφ
        · exact hφ
      refine (htr.facts φ hφ').on (Agree.of_below hbel) (fun x hx hlt => ?_)
      rw [ids_b] at hx
      rcases List.mem_append.1 hx with hx | hx
      · exact List.mem_append_left _ hx
      · rcases List.mem_cons.1 hx with rfl | hx
        · omega
        · exact List.mem_append_right _ hx
theorem Tri.swap {w w' : World} (h : Tri w0 I w L) {i g g' : Nat} {u u' : Obj} (hi : L[i]? = some (.b g u)) (hb : w.grownBy w' (some g)) (hg' : w'.heap[g']? = some u') (hw : g' = g ∨ w.heap.size ≤ g') : Tri w0 I w' (L.set i (.b g' u')) := by
  have hgm : g ∈ ids L := mem_ids.2 ⟨u, List.mem_of_getElem? hi⟩
  -- first: the old block as it is now
  have hglt := h.lt hgm
  obtain ⟨ug, hug⟩ : ∃ ug, w'.heap[g]? = some ug := ⟨w'.heap[g]'(by have := hb.size; omega), Array.getElem?_eq_getElem _⟩
  have h1 : Tri w0 I w' (L.set i (.b g ug)) := by
    refine { os := hb.os.trans h.os, tape := hb.tape.trans h.tape, output := hb.output.trans h.output, size := Nat.le_trans h.size hb.size, frame := fun b hb' hI => ?_, at_ := fun k o' hp => ?_, own := by rw [ids_set hi]; exact h.own, nodup := by rw [ids_set hi]; exact h.nodup, hol := h.hol, facts := fun φ hφ => ?_ }
    · have hne : b ≠ g := by
        rintro rfl
        rcases h.own _ hgm with h1 | h1
        · exact hI h1
        · omega
      have := h.size
      rw [hb.block b (by omega) (fun e => hne (by cases e; rfl))]
      exact h.frame b hb' hI
    · rcases mem_set_other h.nodup hi hp with ⟨rfl, rfl⟩ | ⟨h1, h2⟩
      · exact hug
      · rw [hb.block k (h.lt (mem_ids.2 ⟨o', h2⟩)) (fun e => h1 (by cases e; rfl))]
        exact h.at_ k o' h2
    · rw [ids_set hi]
      refine (h.facts φ (mem_set_fact hφ)).on ⟨hb.os, hb.tape, hb.output, hb.size, fun b hb' hn => ?_⟩ (fun x hx _ => hx)
      exact hb.block b hb' (fun e => hn (by cases e; exact List.mem_append_right _ hgm))
  rcases hw with rfl | hw
  · rw [hug] at hg'
    cases hg'
    exact h1
  · -- the old one is let go of, the new one is ours
    have hsub : ∀ k ∈ ids (L.set i (.b g' u')), k = g' ∨ k ∈ ids L := by
      intro k hk
      obtain ⟨o', ho'⟩ := mem_ids.1 hk
      rcases List.mem_or_eq_of_mem_set ho' with h2 | h2
      · exact .inr (mem_ids.2 ⟨o', h2⟩)
      · injection h2 with e1 _; exact .inl e1
    have hmem : ∀ k o', Ent.b k o' ∈ L.set i (.b g' u') → (k = g' ∧ o' = u') ∨ (k ≠ g ∧ Ent.b k o' ∈ L) := by
      intro k o' hp
      obtain ⟨j, hj⟩ := List.getElem?_of_mem hp
      rw [List.getElem?_set] at hj
      split at hj
      · split at hj
        · have := Option.some.inj hj; injection this with e1 e2; exact .inl ⟨e1.symm, e2.symm⟩
        · cases hj
      · rename_i hne
        refine .inr ⟨fun e => hne ?_, List.mem_of_getElem? hj⟩
        subst e
        exact nodup_idx h.nodup hi hj
    have hnod : (ids (L.set i (.b g' u'))).Nodup := by
      have hfresh : g' ∉ ids L := fun hm' => by have := h.lt hm'; omega
      clear hsub hmem h1 hb hug hg'
      have hno := h.nodup
      clear h hglt hgm
      induction L generalizing i with
      | nil => cases hi
      | cons e r ih =>
        cases i with
        | zero =>
          simp at hi
          subst hi
          rw [List.set_cons_zero, ids_b, List.nodup_cons]
          rw [ids_b] at hno hfresh
          rw [List.nodup_cons] at hno
          exact ⟨fun hm' => hfresh (List.mem_cons_of_mem _ hm'), hno.2⟩
        | succ i =>
          rw [List.set_cons_succ]
          cases e with
          | f φ => rw [ids_f] at hno hfresh ⊢; exact ih (by simpa using hi) hfresh hno
          | b k o' =>
            rw [ids_b] at hno hfresh ⊢
            rw [List.nodup_cons] at hno ⊢
            refine ⟨fun hm' => ?_, ih (by simpa using hi) (fun hm' => hfresh (List.mem_cons_of_mem _ hm')) hno.2⟩
            obtain ⟨o'', ho''⟩ := mem_ids.1 hm'
            rcases List.mem_or_eq_of_mem_set ho'' with h2 | h2
            · exact hno.1 (mem_ids.2 ⟨o'', h2⟩)
            · injection h2 with e1 _
              exact hfresh (by rw [← e1]; exact List.mem_cons_self)
    refine { toAgree := h1.toAgree, at_ := fun k o' hp => ?_, own := fun k hk => ?_, nodup := hnod, hol := h1.hol, facts := fun φ hφ => ?_ }
    · rcases hmem k o' hp with ⟨rfl, rfl⟩ | ⟨h2, h3⟩
      · exact hg'
      · rw [hb.block k (h.lt (mem_ids.2 ⟨o', h3⟩)) (fun e => h2 (by cases e; rfl))]
        exact h.at_ k o' h3
    · rcases hsub k hk with rfl | hk
      · have := h.size; exact .inr (by omega)
      · exact h.own k hk
    · refine (h.facts φ (mem_set_fact hφ)).on ⟨hb.os, hb.tape, hb.output, hb.size, fun b hb' hn => ?_⟩ (fun x hx hlt => ?_)
      · exact hb.block b hb' (fun e => hn (by cases e; exact List.mem_append_right _ hgm))
      · rcases List.mem_append.1 hx with hx | hx
        · exact List.mem_append_left _ hx
        · rcases hsub x hx with rfl | hx
          · omega
          · exact List.mem_append_right _ hx
theorem e_app {t e : TypeId} {c : Call} {x y : Operand} {z : Value} {m bytes k cp d i j : Nat} {b off g q cap : Nat} {cs news olds : List Value} {cur : Array Value} {ee : TypeId} (ho : o.op = .call c) (hc : c.callee = .builtin .append) (hca : c.args = #[x, y]) (hct : c.argTypes = #[t, t]) (hd : o.dst = some d) (hn : Nat.blt d n.n = true)
    (ht : P.underlying t = some (.slice e)) (hi : (P.info? e).map (fun i => (i.zero, i.size, i.bytes)) = some (some z, m, bytes)) (hz : z.cells.size = m) (hm : 0 < m)
    (hx : ev F x = some (.slice (some ⟨g, 0, none⟩) q cap)) (hLg : L[j]? = some (.b g (.cells cur e (0, 0)))) (hqc : q ≤ cap) (hcm : cap ≤ maxLen) (hcs : cur.size = cap * m) (holds : cur.toList.take (q * m) = olds)
    (hy : ev F y = some (.slice (some ⟨b, off, none⟩) k cp)) (hL : L[i]? = some (.b b (.cells cs.toArray ee (0, 0)))) (hnews : (cs.drop off).take (k * m) = news) (hnl : news.length = k * m) (hone : ∀ u ∈ news, u.oneCell' = true) (hkb : (q + k) * bytes ≤ 140737488355328) (hkm : q + k ≤ maxLen) :
    OpE P n w0 I o F L (fun X => ∀ g' cap' cur', q + k ≤ cap' → cap' ≤ maxLen → cur'.size = cap' * m → cur'.toList.take ((q + k) * m) = olds ++ news → X ((d, .slice (some ⟨g', 0, none⟩) (q + k) cap') :: F) (L.set j (.b g' (.cells cur' e (0, 0))))) := by
  intro X hX a w hf htr K Q np hK
  obtain ⟨inf, hinf, hz'⟩ := Option.map_eq_some_iff.1 hi
  simp only [Prod.mk.injEq] at hz'
  have hgget := htr.toWS.get hLg
  have hglt : g < w.heap.size := (Array.getElem?_eq_some_iff.1 hgget).1
  have hol : olds.length = q * m := by rw [← holds, List.length_take, Array.length_toList, hcs]; exact Nat.min_eq_left (Nat.mul_le_mul_right _ hqc)
  have hown : w.ownsRow 0 e m (.slice (some ⟨g, 0, none⟩) q cap) q olds := ⟨hol, .inr ⟨g, cap, cur, rfl, Nat.zero_le _, hgget, hqc, hcm, hcs, holds⟩⟩
  have hcell : ∀ j u, news[j]? = some u → w.cell? ((⟨b, off, none⟩ : Addr).add j) = some u := by
    intro j u hu
    have h1 : w.cell? ⟨b, off + j, none⟩ = some u := by
      rw [htr.toWS.cell hL]
      rw [← hnews, List.getElem?_take] at hu
      split at hu
      · rw [List.getElem?_drop] at hu; simpa using hu
      · cases hu
    unfold Addr.add
    split
    · rename_i h0; subst h0; simpa using h1
    · exact h1
  obtain ⟨v', w', hrun, hrow, hgrow, hnil, hat⟩ := run_append_own_at (P := P) w 0 t o.type e inf z m bytes ht hinf hz'.1 hz'.2.1 hz'.2.2 hz hm _ q olds hown ⟨b, off, none⟩ k cp news hnl hcell hone hkm hkb (Nat.zero_le _)
  have hr : (execOp a.eval o).run P w = .ok (.value v') w' := by
    simp only [execOp, ho, resolve, hc, hca, hct, Sem.run_bind, Sem.run_pure, Result.andThen_ok, invoke, builtin, List.map_toArray, List.map_cons, List.map_nil, hf.ev hx, hf.ev hy, hrun]
  obtain ⟨hl, hcase⟩ := hrow
  rcases hcase with ⟨rfl, h0⟩ | ⟨g', cap', cur', rfl, _, hgh, hnc, hcm', hsz, htk⟩
  · have := hnil.1 rfl; cases this.1
  · unfold Oper.wp
    rw [hr, Oper.upon_value, hd]
    refine hK _ _ (hX g' cap' cur' hnc hcm' hsz htk) _ _ (hf.put (blt_lt hn) _) ?_
    exact htr.swap hLg hgrow hgh (by simp [Value.ownBlock] at hat; omega)
end
end Go.Eng
namespace Go.Eng
open Go.Proofs
set_option linter.unusedVariables false
theorem SZ3 : (Try.prog.info? 3).map (·.size) = some 1 := by kernel_rfl
theorem ZR3 : (Try.prog.info? 3).bind (·.zero) = some (.int .i64 0) := by kernel_rfl
theorem SZ4 : (Try.prog.info? 4).map (·.size) = some 1 := by kernel_rfl
theorem SZ35 : (Try.prog.info? 35).map (·.size) = some 1 := by kernel_rfl
theorem ZR35 : (Try.prog.info? 35).bind (·.zero) = some (.agg #[.slice none 0 0]) := by kernel_rfl
theorem SZ41 : (Try.prog.info? 41).map (·.size) = some 1 := by kernel_rfl
theorem ZR41 : (Try.prog.info? 41).bind (·.zero) = some (.int .u64 0) := by kernel_rfl
theorem SZ43 : (Try.prog.info? 43).map (·.size) = some 5 := by kernel_rfl
theorem ZR43 : (Try.prog.info? 43).bind (·.zero) = some (.agg #[.int .i64 0, .int .u64 0, .int .u64 0, .int .i64 0, .int .i64 0]) := by kernel_rfl
theorem SZ44 : (Try.prog.info? 44).map (·.size) = some 1 := by kernel_rfl
theorem SZ46 : (Try.prog.info? 46).map (·.size) = some 4 := by kernel_rfl
theorem ZR46 : (Try.prog.info? 46).bind (·.zero) = some (.agg #[.bool false, .bool false, .int .u64 0, .slice none 0 0]) := by kernel_rfl
theorem SZ48 : (Try.prog.info? 48).map (·.size) = some 14 := by kernel_rfl
theorem ZR48 : (Try.prog.info? 48).bind (·.zero) = some (.agg #[.int .i64 0, .int .i64 0, .int .u64 0, .int .u64 0, .int .i64 0, .int .i64 0, .int .i64 0, .int .i64 0, .int .i64 0, .bool false, .bool false, .bool false, .int .u64 0, .slice none 0 0]) := by kernel_rfl
theorem SZ53 : (Try.prog.info? 53).map (·.size) = some 14 := by kernel_rfl
theorem ZR53 : (Try.prog.info? 53).bind (·.zero) = some (.agg #[.int .i64 0, .int .i64 0, .int .u64 0, .int .u64 0, .int .i64 0, .int .i64 0, .int .i64 0, .int .i64 0, .int .i64 0, .bool false, .bool false, .bool false, .int .u64 0, .slice none 0 0]) := by kernel_rfl
theorem SZ56 : (Try.prog.info? 56).map (·.size) = some 2 := by kernel_rfl
theorem ZR56 : (Try.prog.info? 56).bind (·.zero) = some (.agg #[.int .u64 0, .int .u64 0]) := by kernel_rfl
theorem SZ61 : (Try.prog.info? 61).map (·.size) = some 2 := by kernel_rfl
theorem ZR61 : (Try.prog.info? 61).bind (·.zero) = some (.agg #[.int .u64 0, .int .u64 0]) := by kernel_rfl
theorem SZ67 : (Try.prog.info? 67).map (·.size) = some 1 := by kernel_rfl
theorem ZR67 : (Try.prog.info? 67).bind (·.zero) = some (.slice none 0 0) := by kernel_rfl
theorem SZ72 : (Try.prog.info? 72).map (·.size) = some 1 := by kernel_rfl
theorem ZR72 : (Try.prog.info? 72).bind (·.zero) = some (.nilFunc) := by kernel_rfl
end Go.Eng
namespace Go.Eng
open Go.Proofs Go.RowKit Go.Proofs.YtiihjijmmephlaaW.PrintWords Go.Proofs.Ytiihjijmmephlaa.GHist
set_option linter.unusedVariables false
theorem seq_Map_get.con (k : Nat) (A0_0 : Option Addr) (c0_0 : Nat) (l0_0 : List (S56)) (a1 : Int) (r1 : Bool) (r2 : Bool) (r3 : Int) (r4 : List Int) (h : seq_Map_get.f k l0_0 a1 = some (r1, r2, r3, r4)) (w : World) (hf_l0_0 : KC k56 A0_0 c0_0 l0_0 w) : Calls Try.prog 47 #[.agg #[.slice A0_0 l0_0.length c0_0], .int .u64 a1] w fun e w' => ∃ z : (Option Addr × Nat), e = .returned (.agg #[.bool r1, .bool r2, .int .u64 r3, .slice z.1 r4.length z.2]) ∧ (∀ φ ∈ ([KC (Kd.int .u64) z.1 z.2 r4] : List (World → Prop)), FreshF w.heap.size w' φ) ∧ Below w.heap.size w w' := by
  refine (seq_Map_get.calls k A0_0 c0_0 l0_0 a1 r1 r2 r3 r4 w hf_l0_0.1 hf_l0_0.2 h).mono ?_
  rintro e w' ⟨v3_, rfl, hr0, hb⟩
  obtain ⟨A0_, c0_, rfl, hf0_⟩ := R_fresh hr0
  refine ⟨(A0_, c0_), rfl, fun φ hφ => ?_, hb⟩
  simp only [List.mem_cons, List.not_mem_nil, or_false] at hφ
  rcases hφ with rfl
  · exact hf0_
theorem seq_Map_without.con (k : Nat) (A0_0 : Option Addr) (c0_0 : Nat) (l0_0 : List S56) (a1 : Int) (r1 : List S56) (r2 : Int) (h : seq_Map_without.f k l0_0 a1 = some (r1, r2)) (w : World) (hf_l0_0 : KC k56 A0_0 c0_0 l0_0 w) : Calls Try.prog 49 #[.agg #[.slice A0_0 l0_0.length c0_0], .int .u64 a1] w fun e w' => ∃ z : (Option Addr × Nat), e = .returned (.tuple #[.agg #[.slice z.1 r1.length z.2], .int .i64 r2]) ∧ (∀ φ ∈ ([KC k56 z.1 z.2 r1] : List (World → Prop)), FreshF w.heap.size w' φ) ∧ Below w.heap.size w w' := by
  refine (seq_Map_without.calls k A0_0 c0_0 l0_0 a1 r1 r2 w hf_l0_0.1 hf_l0_0.2 h).mono ?_
  rintro e w' ⟨v0_, rfl, hr0, hb⟩
  obtain ⟨A0_, c0_, rfl, hf0_⟩ := R_fresh hr0
  refine ⟨(A0_, c0_), rfl, fun φ hφ => ?_, hb⟩
  simp only [List.mem_cons, List.not_mem_nil, or_false] at hφ
  rcases hφ with rfl
  · exact hf0_
theorem seq_Map_with.con (k : Nat) (A0_0 : Option Addr) (c0_0 : Nat) (l0_0 : List S56) (a1_0 a1_1 : Int) (r1 : List S56) (h : seq_Map_with.f k l0_0 a1_0 a1_1 = some r1) (w : World) (hf_l0_0 : KC k56 A0_0 c0_0 l0_0 w) : Calls Try.prog 48 #[.agg #[.slice A0_0 l0_0.length c0_0], .agg #[.int .u64 a1_0, .int .u64 a1_1]] w fun e w' => ∃ z : (Option Addr × Nat), e = .returned (.agg #[.slice z.1 r1.length z.2]) ∧ (∀ φ ∈ ([KC k56 z.1 z.2 r1] : List (World → Prop)), FreshF w.heap.size w' φ) ∧ Below w.heap.size w w' := by
  refine (seq_Map_with.calls k A0_0 c0_0 l0_0 a1_0 a1_1 r1 w hf_l0_0.1 hf_l0_0.2 h).mono ?_
  rintro e w' ⟨v0_, rfl, hr0, hb⟩
  obtain ⟨A0_, c0_, rfl, hf0_⟩ := R_fresh hr0
  refine ⟨(A0_, c0_), rfl, fun φ hφ => ?_, hb⟩
  simp only [List.mem_cons, List.not_mem_nil, or_false] at hφ
  rcases hφ with rfl
  · exact hf0_
theorem seq_Map_Pairs.con (A0_0 : Option Addr) (c0_0 : Nat) (l0_0 : List (S56)) (r : List (S56)) (h : seq_Map_Pairs.f l0_0 = some r) (w : World) (hf_l0_0 : KC k56 A0_0 c0_0 l0_0 w) : Calls Try.prog 17 #[.agg #[.slice A0_0 l0_0.length c0_0]] w fun e w' => ∃ z : (Option Addr × Nat), e = .returned (.slice z.1 r.length z.2) ∧ (∀ φ ∈ ([KC k56 z.1 z.2 r] : List (World → Prop)), FreshF w.heap.size w' φ) ∧ Below w.heap.size w w' := by
  refine (seq_Map_Pairs.calls A0_0 c0_0 l0_0 r w hf_l0_0.1 hf_l0_0.2 h).mono ?_
  rintro e w' ⟨v0_, rfl, hr0, hb⟩
  obtain ⟨A0_, c0_, rfl, hf0_⟩ := R_fresh hr0
  refine ⟨(A0_, c0_), rfl, fun φ hφ => ?_, hb⟩
  simp only [List.mem_cons, List.not_mem_nil, or_false] at hφ
  rcases hφ with rfl
  · exact hf0_
theorem seq_Same.con (k : Nat) (a0_0 : Bool) (a0_1 : Bool) (a0_2 : Int) (A0_3 : Option Addr) (c0_3 : Nat) (l0_3 : List Int) (a1_0 : Bool) (a1_1 : Bool) (a1_2 : Int) (A1_3 : Option Addr) (c1_3 : Nat) (l1_3 : List Int) (r : Bool) (h : seq_Same.f k a0_0 a0_1 a0_2 l0_3 a1_0 a1_1 a1_2 l1_3 = some r) (w : World) (hf_l0_3 : KC (Kd.int .u64) A0_3 c0_3 l0_3 w) (hf_l1_3 : KC (Kd.int .u64) A1_3 c1_3 l1_3 w) : Calls Try.prog 33 #[.agg #[.bool a0_0, .bool a0_1, .int .u64 a0_2, .slice A0_3 l0_3.length c0_3], .agg #[.bool a1_0, .bool a1_1, .int .u64 a1_2, .slice A1_3 l1_3.length c1_3]] w fun e w' => ∃ z : Unit, e = .returned (.bool r) ∧ (∀ φ ∈ ([] : List (World → Prop)), FreshF w.heap.size w' φ) ∧ Below w.heap.size w w' := by
  refine (seq_Same.calls k a0_0 a0_1 a0_2 A0_3 c0_3 l0_3 a1_0 a1_1 a1_2 A1_3 c1_3 l1_3 r w hf_l0_3.1 hf_l0_3.2 hf_l1_3.1 hf_l1_3.2 h).mono ?_
  rintro e w' ⟨rfl, hb⟩
  exact ⟨(), rfl, fun _ h => (by cases h), hb⟩
theorem stepstoneref07_With.con (k : Nat) (A0 : Option Addr) (c0 : Nat) (l0 : List (S61)) (a1_0 : Int) (a1_1 : Int) (r : List (S61)) (h : stepstoneref07_With.f k l0 a1_0 a1_1 = some r) (w : World) (hf_l0 : KC k61 A0 c0 l0 w) : Calls Try.prog 54 #[.slice A0 l0.length c0, .agg #[.int .u64 a1_0, .int .u64 a1_1]] w fun e w' => ∃ z : (Option Addr × Nat), e = .returned (.slice z.1 r.length z.2) ∧ (∀ φ ∈ ([KC k61 z.1 z.2 r] : List (World → Prop)), FreshF w.heap.size w' φ) ∧ Below w.heap.size w w' := by
  refine (stepstoneref07_With.calls k A0 c0 l0 a1_0 a1_1 r w hf_l0.1 hf_l0.2 h).mono ?_
  rintro e w' ⟨v0_, rfl, hr0, hb⟩
  obtain ⟨A0_, c0_, rfl, hf0_⟩ := R_fresh hr0
  refine ⟨(A0_, c0_), rfl, fun φ hφ => ?_, hb⟩
  simp only [List.mem_cons, List.not_mem_nil, or_false] at hφ
  rcases hφ with rfl
  · exact hf0_
theorem stepstoneref07_Without.con (k : Nat) (A0 : Option Addr) (c0 : Nat) (l0 : List (S61)) (a1 : Int) (r : List (S61)) (h : stepstoneref07_Without.f k l0 a1 = some r) (w : World) (hf_l0 : KC k61 A0 c0 l0 w) : Calls Try.prog 55 #[.slice A0 l0.length c0, .int .u64 a1] w fun e w' => ∃ z : (Option Addr × Nat), e = .returned (.slice z.1 r.length z.2) ∧ (∀ φ ∈ ([KC k61 z.1 z.2 r] : List (World → Prop)), FreshF w.heap.size w' φ) ∧ Below w.heap.size w w' := by
  refine (stepstoneref07_Without.calls k A0 c0 l0 a1 r w hf_l0.1 hf_l0.2 h).mono ?_
  rintro e w' ⟨v0_, rfl, hr0, hb⟩
  obtain ⟨A0_, c0_, rfl, hf0_⟩ := R_fresh hr0
  refine ⟨(A0_, c0_), rfl, fun φ hφ => ?_, hb⟩
  simp only [List.mem_cons, List.not_mem_nil, or_false] at hφ
  rcases hφ with rfl
  · exact hf0_
theorem stepstoneref07_get.con (k : Nat) (A0 : Option Addr) (c0 : Nat) (l0 : List (S61)) (a1 : Int) (r1 : Bool) (r2 : Bool) (r3 : Int) (r4 : List Int) (h : stepstoneref07_get.f k l0 a1 = some (r1, r2, r3, r4)) (w : World) (hf_l0 : KC k61 A0 c0 l0 w) : Calls Try.prog 53 #[.slice A0 l0.length c0, .int .u64 a1] w fun e w' => ∃ z : (Option Addr × Nat), e = .returned (.agg #[.bool r1, .bool r2, .int .u64 r3, .slice z.1 r4.length z.2]) ∧ (∀ φ ∈ ([KC (Kd.int .u64) z.1 z.2 r4] : List (World → Prop)), FreshF w.heap.size w' φ) ∧ Below w.heap.size w w' := by
  refine (stepstoneref07_get.calls k A0 c0 l0 a1 r1 r2 r3 r4 w hf_l0.1 hf_l0.2 h).mono ?_
  rintro e w' ⟨v3_, rfl, hr0, hb⟩
  obtain ⟨A0_, c0_, rfl, hf0_⟩ := R_fresh hr0
  refine ⟨(A0_, c0_), rfl, fun φ hφ => ?_, hb⟩
  simp only [List.mem_cons, List.not_mem_nil, or_false] at hφ
  rcases hφ with rfl
  · exact hf0_
theorem cmp_Compare_int.con (a0 : Int) (a1 : Int) (r : Int) (h : cmp_Compare_int.f a0 a1 = some r) (w : World)  : Calls Try.prog 28 #[.int .i64 a0, .int .i64 a1] w fun e w' => ∃ z : Unit, e = .returned (.int .i64 r) ∧ (∀ φ ∈ ([] : List (World → Prop)), FreshF w.heap.size w' φ) ∧ Below w.heap.size w w' := by
  refine (cmp_Compare_int.calls a0 a1 r w h).mono ?_
  rintro e w' ⟨rfl, hb⟩
  exact ⟨(), rfl, fun _ h => (by cases h), hb.below⟩
theorem stepstoneref08_in.con (k : Nat) (A0 : Option Addr) (c0 : Nat) (l0 : List Int) (a1 : Int) (r : Bool) (h : stepstoneref08_in.f k l0 a1 = some r) (w : World) (hf_l0 : KC (Kd.int .u64) A0 c0 l0 w) : Calls Try.prog 62 #[.slice A0 l0.length c0, .int .u64 a1] w fun e w' => ∃ z : Unit, e = .returned (.bool r) ∧ (∀ φ ∈ ([] : List (World → Prop)), FreshF w.heap.size w' φ) ∧ Below w.heap.size w w' := by
  refine (stepstoneref08_in.calls k A0 c0 l0 a1 r w hf_l0.1 hf_l0.2 h).mono ?_
  rintro e w' ⟨rfl, hb⟩
  exact ⟨(), rfl, fun _ h => (by cases h), hb.below⟩
theorem stepstoneref08_has.con (k : Nat) (A0 : Option Addr) (c0 : Nat) (l0 : List (S61)) (a1 : Int) (r : Bool) (h : stepstoneref08_has.f k l0 a1 = some r) (w : World) (hf_l0 : KC k61 A0 c0 l0 w) : Calls Try.prog 61 #[.slice A0 l0.length c0, .int .u64 a1] w fun e w' => ∃ z : Unit, e = .returned (.bool r) ∧ (∀ φ ∈ ([] : List (World → Prop)), FreshF w.heap.size w' φ) ∧ Below w.heap.size w w' := by
  refine (stepstoneref08_has.calls k A0 c0 l0 a1 r w hf_l0.1 hf_l0.2 h).mono ?_
  rintro e w' ⟨rfl, hb⟩
  exact ⟨(), rfl, fun _ h => (by cases h), hb.below⟩
theorem stepstonelaw08_few.con (k : Nat) (A0 : Option Addr) (c0 : Nat) (l0 : List (S48)) (r : Bool) (h : stepstonelaw08_few.f k l0 = some r) (w : World) (hf_l0 : KC k48 A0 c0 l0 w) : Calls Try.prog 9 #[.slice A0 l0.length c0] w fun e w' => ∃ z : Unit, e = .returned (.bool r) ∧ (∀ φ ∈ ([] : List (World → Prop)), FreshF w.heap.size w' φ) ∧ Below w.heap.size w w' := by
  refine (stepstonelaw08_few.calls k A0 c0 l0 r w hf_l0.1 hf_l0.2 h).mono ?_
  rintro e w' ⟨rfl, hb⟩
  exact ⟨(), rfl, fun _ h => (by cases h), hb⟩
theorem slices_Contains_uint64_uint64.con (k : Nat) (A0 : Option Addr) (c0 : Nat) (l0 : List Int) (a1 : Int) (r : Bool) (h : slices_Contains_uint64_uint64.f k l0 a1 = some r) (w : World) (hf_l0 : KC (Kd.int .u64) A0 c0 l0 w) : Calls Try.prog 45 #[.slice A0 l0.length c0, .int .u64 a1] w fun e w' => ∃ z : Unit, e = .returned (.bool r) ∧ (∀ φ ∈ ([] : List (World → Prop)), FreshF w.heap.size w' φ) ∧ Below w.heap.size w w' := by
  refine (slices_Contains_uint64_uint64.calls k A0 c0 l0 a1 r w hf_l0.1 hf_l0.2 h).mono ?_
  rintro e w' ⟨rfl, hb⟩
  exact ⟨(), rfl, fun _ h => (by cases h), hb.below⟩
end Go.Eng
namespace Go.Eng
open Go.RowKit Go.Proofs.YtiihjijmmephlaaW.PrintWords
set_option linter.unusedVariables false
set_option linter.unusedSimpArgs false
def at0 (A : Option Addr) (j : Int) (m : Nat) : Addr := (A.getD ⟨0, 0, none⟩).add (j.toNat * m)
theorem KC_at {α : Type} {d : Kd α} {A : Option Addr} {c : Nat} {l : List α} {w : World} (h : KC d A c l w) (z : α) (j : Int) (h0 : 0 ≤ j) (h1 : j < l.length) {cs : List Value} (hopen : ∀ K, d.K w (l.getD j.toNat z) K → K = cs) (q : Nat) (v : Value) (hq : cs[q]? = some v) : w.cell? ((at0 A j d.sz).add q) = some v := by
  obtain ⟨ad, K, rfl, _, hK, hc⟩ := Kd.C_get h.1 z j h0 h1
  obtain rfl := hopen K hK
  unfold at0
  rw [Go.Deep.add_add]
  exact hc q v hq
theorem add0 (a : Addr) : a.add 0 = a := by simp [Addr.add]
section
variable {P : Program} {W : Code → (Exit → Act → World → Prop) → Act → World → Prop} {n : Sz} {w0 : World} {I : Ix} {F : FL} {L : HL} {o : Oper} {Q : Exit → Act → World → Prop}
theorem v_iaK {α : Type} {d : Kd α} {t e : TypeId} {x y : Operand} {A : Option Addr} {l : List α} {len c c' m i : Nat} {k : IntKind} {j : Int} (ho : o.op = .indexAddr t x y) (ht : P.underlying t = some (.slice e)) (hm : (P.info? e).map (·.size) = some m) (hx : ev F x = some (.slice A len c)) (hy : ev F y = some (.int k j)) (hL : L[i]? = some (.f (KC d A c' l))) (hlen : len = l.length) (h0 : 0 ≤ j) (h1 : j < (l.length : Int)) : OpV P n w0 I o F L (.pointer (some (at0 A j m))) := by
  intro a w hf hs
  have hK : KC d A c' l w := hs.fact _ (List.mem_of_getElem? hL)
  obtain ⟨ad, rfl⟩ : ∃ ad, A = some ad := by
    cases l with
    | nil => simp at h1; omega
    | cons z r => obtain ⟨ad, _, e, _⟩ := Kd.C_get hK.1 z j h0 h1; exact ⟨ad, e⟩
  have h1' : j < (len : Int) := by rw [hlen]; exact h1
  simp [execOp, ho, hf.ev hx, hf.ev hy, Instr.indexAt, asIntOf, run_underlying ht, h0, h1', run_size hm, at0]
theorem v_fax {s : TypeId} {x : Operand} {f : Nat} {fs : Array Field} {fd : Field} {ad : Addr} {m : Nat} (ho : o.op = .fieldAddr s x f) (hs' : P.underlying s = some (.struct fs)) (hf' : fs[f]? = some fd) (hm : (P.info? fd.type).map (·.size) = some (m + 1)) (hx : ev F x = some (.pointer (some ad))) : OpV P n w0 I o F L (.pointer (some (ad.add fd.offset))) := by
  intro a w hf hs
  simp only [execOp, ho, hf.ev hx, Instr.fieldAt, Instr.sureAddr, Sem.run_bind, Sem.run_pure, Result.andThen_ok, run_underlying hs', hf', fieldPlace, run_size hm, Nat.add_eq_zero_iff, Nat.one_ne_zero, and_false, if_false]
theorem v_ldK {α : Type} {d : Kd α} {t : TypeId} {x : Operand} {D : TypeDesc} {A : Option Addr} {l : List α} {c m : Nat} {j : Int} {v : Value} (z : α) (i : Nat) (ho : o.op = .load t x) (ht : P.underlying t = some D) (hd : notAgg D = true) (hx : ev F x = some (.pointer (some (at0 A j m)))) (hL : L[i]? = some (.f (KC d A c l))) (hsz : d.sz = m) (h0 : 0 ≤ j) (h1 : j < (l.length : Int)) (hopen : ∀ w K, d.K w (l.getD j.toNat z) K → K = [v]) : OpV P n w0 I o F L v :=
  v_ldf i ho ht hd hx hL (fun w hw => by
    subst hsz
    have := KC_at hw z j h0 h1 (hopen w) 0 v rfl
    rwa [add0] at this)
theorem v_ldKf {α : Type} {d : Kd α} {t : TypeId} {x : Operand} {D : TypeDesc} {A : Option Addr} {l : List α} {c m q : Nat} {j : Int} {v : Value} (z : α) (cs : List Value) (i : Nat) (ho : o.op = .load t x) (ht : P.underlying t = some D) (hd : notAgg D = true) (hx : ev F x = some (.pointer (some ((at0 A j m).add q)))) (hL : L[i]? = some (.f (KC d A c l))) (hsz : d.sz = m) (h0 : 0 ≤ j) (h1 : j < (l.length : Int)) (hopen : ∀ w K, d.K w (l.getD j.toNat z) K → K = cs) (hq : cs[q]? = some v) : OpV P n w0 I o F L v :=
  v_ldf i ho ht hd hx hL (fun w hw => by
    subst hsz
    exact KC_at hw z j h0 h1 (hopen w) q v hq)
theorem v_ldKA {α : Type} {d : Kd α} {t : TypeId} {x : Operand} {D : TypeDesc} {A : Option Addr} {l : List α} {c m : Nat} {j : Int} (z : α) (cs : List Value) (i : Nat) (ho : o.op = .load t x) (ht : P.underlying t = some D) (hd : notAgg D = false) (hm : (P.info? t).map (·.size) = some m) (hx : ev F x = some (.pointer (some (at0 A j m)))) (hL : L[i]? = some (.f (KC d A c l))) (hl : cs.length = m) (hsz : d.sz = m) (h0 : 0 ≤ j) (h1 : j < (l.length : Int)) (hopen : ∀ w K, d.K w (l.getD j.toNat z) K → K = cs) : OpV P n w0 I o F L (.agg cs.toArray) :=
  v_ldAf cs i ho ht hd hm hx hL hl (fun w hw q v hq => by
    subst hsz
    exact KC_at hw z j h0 h1 (hopen w) q v hq)
theorem OpV.cast {u v : Value} (h : OpV P n w0 I o F L u) (e : u = v) : OpV P n w0 I o F L v := e ▸ h
theorem eqDepth : ∃ d, Op.maxDepth = d + 2 := ⟨9998, rfl⟩
theorem v_eqA {t t' : TypeId} {x y : Operand} {xs ys : Array Value} {r : Bool} (ho : o.op = .binOp .eql t x y t') (hx : ev F x = some (.agg xs)) (hy : ev F y = some (.agg ys)) (hg : P.eqGuardType P.depth t = false) (he : ∀ d w, (Op.equalIn (d + 2) t (.agg xs) (.agg ys)).run P w = .ok r w) : OpV P n w0 I o F L (.bool r) := by
  intro a w hf hs
  obtain ⟨d, hd⟩ := eqDepth
  simp [execOp, ho, hf.ev hx, hf.ev hy, eqGuard, binOp, hg, Op.equal, hd]
  have := he d w
  simp [this]
theorem v_eqB {t t' : TypeId} {x y : Operand} {b c : Bool} (ho : o.op = .binOp .eql t x y t') (ht : P.underlying t = some .bool) (hx : ev F x = some (.bool b)) (hy : ev F y = some (.bool c)) : OpV P n w0 I o F L (.bool (b == c)) := by
  intro a w hf hs
  obtain ⟨d, hd⟩ := eqDepth
  have : (Op.equalIn (d + 2) t (.bool b) (.bool c)).run P w = .ok (b == c) w := by
    simp [Op.equalIn, run_underlying ht]
  simp [execOp, ho, hf.ev hx, hf.ev hy, eqGuard, binOp, Op.equal, hd, this]
theorem Tri.dup {w : World} (h : Tri w0 I w L) : ∀ {L1 : HL}, (∀ p ∈ L1, p ∈ L) → ids L1 = [] → Tri w0 I w (L1 ++ L)
  | [], _, _ => h
  | .b n o :: r, _, hi => by rw [ids_b] at hi; cases hi
  | .f φ :: r, hs, hi => by
    rw [ids_f] at hi
    have ih := Tri.dup h (fun p hp => hs p (List.mem_cons_of_mem _ hp)) hi
    refine ih.know ?_
    rw [ids_app, hi, List.nil_append]
    exact h.facts φ (hs _ List.mem_cons_self)
theorem e_callF {c : Call} {x : Operand} {g : FuncId} {fn : Func} {fst cap : Array Value} {vs : List Value} {d : Nat} {L1 : HL} {C : (Value → HL → Prop) → Prop} (idx : List Nat) (args : Array Value) (ho : o.op = .call c) (hc : c.callee = .value x) (hx : ev F x = some (.func (.func g) fst cap)) (hv : evs F c.args.toList = some vs) (hargs : fst ++ vs.toArray ++ cap = args)
    (hf : P.funcs[g]? = some fn) (hb : fn.body.isNone = false) (hname : (fn.name == "runtime.NumGoroutine") = false) (hd : o.dst = some d) (hn : Nat.blt d n.n = true) (h1 : pick L idx = some L1) (hi : ids L1 = [])
    (hcon : ∀ w, Tri w0 I w L → Con P g args w (I.holes ++ ids L) L1 C) : OpE P n w0 I o F L (fun X => C (fun v L1' => X ((d, v) :: F) (L1' ++ L))) := by
  intro X hX a w hfr ht K Q np hK
  have e1 : c.args.map a.eval = vs.toArray := Array.toList_inj.1 (by simpa using hfr.evs hv)
  have hr : (execOp a.eval o).run P w = .ok (.enter g args) w := by
    simp only [execOp, ho, resolve, hc, e1, hfr.ev hx, Deferred.ofValue, Sem.run_bind, Sem.run_pure, Result.andThen_ok, invoke, hargs, run_callFunc hf hb hname]
  have ht1 : Tri w0 I w (L1 ++ L) := ht.dup (mem_pick h1) hi
  have hnd : (ids (L1 ++ L)).Nodup := ht1.nodup
  have h := hcon w ht (ht1.here (fun p hp => hp) hnd) _ hX
  unfold Oper.wp
  rw [hr, Oper.upon_enter]
  refine h.mono ?_
  rintro e w' ⟨v, L', rfl, hx', ht'⟩
  show K (a.put o.dst v) w'
  rw [hd]
  exact hK _ _ hx' _ _ (hfr.put (blt_lt hn) v) (ht1.trans (fun p hp => hp) hnd ht')
def LoopAt {σ : Type} (n : Sz) (w0 : World) (I : Ix) (Inv : σ → Prop) (μ : σ → Nat) (Fs : σ → FL) (Ls : σ → HL) (m : Nat) (a : Act) (w : World) : Prop := ∃ s, Inv s ∧ μ s = m ∧ Fr n a (Fs s) ∧ Tri w0 I w (Ls s)
theorem c_loop {σ : Type} {c : Code} (Inv : σ → Prop) (μ : σ → Nat) (Fs : σ → FL) (Ls : σ → HL) (s0 : σ) (idx : List Nat) (h : cK c = 4) (h0 : Inv s0) (hF : ∀ j v, look (Fs s0) j = some v → look F j = some v) (hp : pick L idx = some (Ls s0)) (hi : idx.Nodup)
    (hbody : ∀ s, Inv s → CW P W n w0 I (cA c) (Exit.then (fun a' w' => ∃ k, k < μ s ∧ LoopAt n w0 I Inv μ Fs Ls k a' w') Q) (Fs s) (Ls s)) : CW P W n w0 I c Q F L := by
  intro fl np a w hf ht
  have : c = .loop (cA c) := by cases c <;> first | (simp [cK] at h; done) | rfl | (rename_i d; cases d <;> first | rfl | (simp [cK] at h; done))
  rw [this]
  refine fl.loop (fun m a w => LoopAt n w0 I Inv μ Fs Ls m a w) (μ s0) ⟨s0, h0, rfl, hf.sub hF, ht.pick (mem_pick hp) (pick_nodup ht.nodup hp hi)⟩ ?_
  rintro m a' w' ⟨s, hs, rfl, hf', ht'⟩
  exact hbody s hs fl ⟨fun c a w h => np.1 c a w h, fun a w h => np.2 a w h⟩ a' w' hf' ht'
theorem q_again {σ : Type} {Inv : σ → Prop} {μ : σ → Nat} {Fs : σ → FL} {Ls : σ → HL} {m : Nat} (s' : σ) (idx : List Nat) (hs : Inv s') (hm : μ s' < m) (hF : ∀ j v, look (Fs s') j = some v → look F j = some v) (hp : pick L idx = some (Ls s')) (hi : idx.Nodup) : QW P W n w0 I .normal (Exit.then (fun a' w' => ∃ k, k < m ∧ LoopAt n w0 I Inv μ Fs Ls k a' w') Q) F L :=
  fun fl np a w hf ht => ⟨μ s', hm, s', hs, rfl, hf.sub hF, ht.pick (mem_pick hp) (pick_nodup ht.nodup hp hi)⟩
def subF (F : FL) : FL → Prop
  | [] => True
  | p :: r => look F p.1 = some p.2 ∧ subF F r
theorem subF_spec {F : FL} : ∀ {F' : FL}, subF F F' → ∀ j v, look F' j = some v → look F j = some v
  | [], _, j, v, h => by cases h
  | p :: r, h, j, v, hv => by
    obtain ⟨d, u⟩ := p
    exact sub_cons h.1 (fun j v hv => subF_spec h.2 j v hv) j v hv
theorem s_know {ops : Array Oper} {l : List Nat} {p : Prop} {φ : World → Prop} (i : Nat) (hL : L[i]? = some (.f φ)) (hφ : ∀ w, φ w → p) (k : p → SW P W n w0 I ops Q l F L) : SW P W n w0 I ops Q l F L :=
  fun fl np a w hf ht => k (hφ w (ht.facts _ (List.mem_of_getElem? hL)).here) fl np a w hf ht
theorem s_knowT {ops : Array Oper} {l : List Nat} {φ : World → Prop} (hφ : ∀ w, φ w) (k : SW P W n w0 I ops Q l F (.f φ :: L)) : SW P W n w0 I ops Q l F L :=
  fun fl np a w hf ht => k fl np a w hf (ht.know (fun w' _ => hφ w'))
theorem s_dup {ops : Array Oper} {l : List Nat} {φ : World → Prop} (i : Nat) (hL : L[i]? = some (.f φ)) (k : SW P W n w0 I ops Q l F (.f φ :: L)) : SW P W n w0 I ops Q l F L :=
  fun fl np a w hf ht => k fl np a w hf (ht.know (ht.facts _ (List.mem_of_getElem? hL)))
theorem c_knowT {c : Code} {φ : World → Prop} (hφ : ∀ w, φ w) (k : CW P W n w0 I c Q F (.f φ :: L)) : CW P W n w0 I c Q F L :=
  fun fl np a w hf ht => k fl np a w hf (ht.know (fun w' _ => hφ w'))
end
end Go.Eng
namespace Go.Eng
open Go.RowKit Go.Proofs.YtiihjijmmephlaaW.PrintWords
set_option linter.unusedVariables false
set_option linter.unusedSimpArgs false
section
variable {P : Program} {W : Code → (Exit → Act → World → Prop) → Act → World → Prop} {n : Sz} {w0 : World} {I : Ix} {F : FL} {L : HL} {o : Oper} {Q : Exit → Act → World → Prop}
theorem s_give {ops : Array Oper} {l : List Nat} {L' : HL} {g : Nat} {o' : Obj} {φ : World → Prop} (idx : List Nat) (hp : pick L idx = some (.b g o' :: L')) (hi : idx.Nodup) (hI : g ∉ I.own) (hφ : ∀ w, w.heap[g]? = some o' → φ w) (k : SW P W n w0 I ops Q l F (.f φ :: L')) : SW P W n w0 I ops Q l F L :=
  fun fl np a w hf ht => k fl np a w hf (tri_give ht idx hp hi hI hφ)
end
end Go.Eng
namespace Go.Eng
open Go.RowKit Go.Proofs.YtiihjijmmephlaaW.PrintWords
set_option linter.unusedVariables false
set_option linter.unusedSimpArgs false
theorem stab_cell {H : List Nat} {w : World} {φ : World → Prop} {ad : Addr} (h : Stab H w φ) (hφ : ∀ w, φ w → ∃ v, w.cell? ad = some v) {w' : World} (ha : Agree H w w') : w'.cell? ad = w.cell? ad := by
  obtain ⟨v, hv⟩ := hφ w h.here
  have hlt := World.block_lt_of_cell? w _ hv
  by_cases hb : ad.block ∈ H
  · exfalso
    obtain ⟨u, hu⟩ := hφ { w with heap := w.heap.setIfInBounds ad.block (.deferred none) } (h _ ⟨rfl, rfl, rfl, by simp, fun k hk hn => by
      have hne : ad.block ≠ k := fun e => hn (e ▸ hb)
      simp only [Array.getElem?_setIfInBounds_ne hne]⟩)
    simp [World.cell?, hlt] at hu
  · exact World.cell?_of_block (ha.frame _ hlt hb)
section
variable {P : Program} {W : Code → (Exit → Act → World → Prop) → Act → World → Prop} {n : Sz} {w0 : World} {I : Ix} {F : FL} {L : HL} {o : Oper} {Q : Exit → Act → World → Prop}
theorem e_ldKX {α : Type} {D : Kd α} {t : TypeId} {x : Operand} {dd : TypeDesc} {A : Option Addr} {l : List α} {c m d : Nat} {j : Int} (z : α) (i : Nat) (ho : o.op = .load t x) (hd : o.dst = some d) (hn : Nat.blt d n.n = true) (ht : P.underlying t = some dd) (hdd : notAgg dd = false) (hm : (P.info? t).map (·.size) = some m) (hx : ev F x = some (.pointer (some (at0 A j m)))) (hL : L[i]? = some (.f (KC D A c l))) (hsz : D.sz = m) (h0 : 0 ≤ j) (h1 : j < (l.length : Int)) :
    OpE P n w0 I o F L (fun X => ∀ cs : List Value, cs.length = m → X ((d, .agg cs.toArray) :: F) (.f (fun w => D.K w (l.getD j.toNat z) cs) :: L)) := by
  intro X hX a w hf htr K Q np hK
  subst hsz
  have hst : Stab (I.holes ++ ids L) w (KC D A c l) := htr.facts _ (List.mem_of_getElem? hL)
  obtain ⟨ad, cs, rfl, hcl, hKc, hcell⟩ := Kd.C_get hst.here.1 z j h0 h1
  have hcell' : ∀ q v, cs[q]? = some v → w.cell? ((at0 (some ad) j D.sz).add q) = some v := by
    intro q v hq
    unfold at0
    rw [Option.getD_some, Go.Deep.add_add]
    exact hcell q v hq
  have hr : (execOp a.eval o).run P w = .ok (.value (.agg cs.toArray)) w := by
    have h2 := run_loadCells_list (P := P) w (at0 (some ad) j D.sz) cs hcell'
    rw [hcl] at h2
    simp only [execOp, ho, hf.ev hx, Instr.loadAt, Instr.sureAddr, loadVar, Sem.run_bind, Sem.run_pure, Result.andThen_ok, run_isAgg1 ht hdd, if_true, run_size hm, h2]
  unfold Oper.wp
  rw [hr, Oper.upon_value, hd]
  refine hK _ _ (hX cs hcl) _ _ (hf.put (blt_lt hn) _) (htr.know ?_)
  intro w' ha
  obtain ⟨ad', cs', e, hcl', hKc', hcell''⟩ := Kd.C_get (hst w' ha).1 z j h0 h1
  injection e with e
  subst e
  have : cs' = cs := by
    apply List.ext_getElem?
    intro q
    by_cases hq : q < D.sz
    · have e1 := hcell'' q _ (List.getElem?_eq_getElem (show q < cs'.length by omega))
      have e2 := hcell q _ (List.getElem?_eq_getElem (show q < cs.length by omega))
      have hs := stab_cell (ad := ad.add (j.toNat * D.sz + q)) hst (fun v hv => by
        obtain ⟨ad2, cs2, e3, hcl2, _, h3⟩ := Kd.C_get hv.1 z j h0 h1
        injection e3 with e3
        subst e3
        exact ⟨_, h3 q _ (List.getElem?_eq_getElem (show q < cs2.length by omega))⟩) ha
      rw [e1, e2] at hs
      rw [List.getElem?_eq_getElem (show q < cs'.length by omega), List.getElem?_eq_getElem (show q < cs.length by omega), hs]
    · rw [List.getElem?_eq_none (by omega), List.getElem?_eq_none (by omega)]
  rw [this] at hKc'
  exact hKc'
theorem v_ldKq {α : Type} {D : Kd α} {t : TypeId} {x : Operand} {dd : TypeDesc} {A : Option Addr} {l : List α} {c m q : Nat} {j : Int} {v : Value} (z : α) (i : Nat) (ho : o.op = .load t x) (ht : P.underlying t = some dd) (hd : notAgg dd = true) (hx : ev F x = some (.pointer (some ((at0 A j m).add q)))) (hL : L[i]? = some (.f (KC D A c l))) (hsz : D.sz = m) (h0 : 0 ≤ j) (h1 : j < (l.length : Int)) (hopen : ∀ w K, D.K w (l.getD j.toNat z) K → K[q]? = some v) : OpV P n w0 I o F L v :=
  v_ldf i ho ht hd hx hL (fun w hw => by
    subst hsz
    obtain ⟨ad, K, rfl, _, hK, hc⟩ := Kd.C_get hw.1 z j h0 h1
    have := hc q v (hopen w K hK)
    unfold at0
    rw [Option.getD_some, Go.Deep.add_add]
    exact this)
theorem s_weak {ops : Array Oper} {l : List Nat} {φ ψ : World → Prop} (i : Nat) (hL : L[i]? = some (.f φ)) (h : ∀ w, φ w → ψ w) (k : SW P W n w0 I ops Q l F (.f ψ :: L)) : SW P W n w0 I ops Q l F L :=
  fun fl np a w hf ht => k fl np a w hf (ht.know (fun w' ha => h w' (ht.facts _ (List.mem_of_getElem? hL) w' ha)))
theorem q_weak {e : Exit} {φ ψ : World → Prop} (i : Nat) (hL : L[i]? = some (.f φ)) (h : ∀ w, φ w → ψ w) (k : QW P W n w0 I e Q F (.f ψ :: L)) : QW P W n w0 I e Q F L :=
  fun fl np a w hf ht => k fl np a w hf (ht.know (fun w' ha => h w' (ht.facts _ (List.mem_of_getElem? hL) w' ha)))
theorem q_both {e : Exit} {φ ψ : World → Prop} (i j : Nat) (hL : L[i]? = some (.f φ)) (hM : L[j]? = some (.f ψ)) (k : QW P W n w0 I e Q F (.f (fun w => φ w ∧ ψ w) :: L)) : QW P W n w0 I e Q F L :=
  fun fl np a w hf ht => k fl np a w hf (ht.know (fun w' ha => ⟨ht.facts _ (List.mem_of_getElem? hL) w' ha, ht.facts _ (List.mem_of_getElem? hM) w' ha⟩))
theorem s_both {ops : Array Oper} {l : List Nat} {φ ψ : World → Prop} (i j : Nat) (hL : L[i]? = some (.f φ)) (hM : L[j]? = some (.f ψ)) (k : SW P W n w0 I ops Q l F (.f (fun w => φ w ∧ ψ w) :: L)) : SW P W n w0 I ops Q l F L :=
  fun fl np a w hf ht => k fl np a w hf (ht.know (fun w' ha => ⟨ht.facts _ (List.mem_of_getElem? hL) w' ha, ht.facts _ (List.mem_of_getElem? hM) w' ha⟩))
theorem c_weak {c : Code} {φ ψ : World → Prop} (i : Nat) (hL : L[i]? = some (.f φ)) (h : ∀ w, φ w → ψ w) (k : CW P W n w0 I c Q F (.f ψ :: L)) : CW P W n w0 I c Q F L :=
  fun fl np a w hf ht => k fl np a w hf (ht.know (fun w' ha => h w' (ht.facts _ (List.mem_of_getElem? hL) w' ha)))
def RowI (k : IntKind) (xs : List Int) (rest : List Value) : Array Value := (xs.map (Value.int k) ++ rest).toArray
theorem RowI_take {k : IntKind} {xs : List Int} {rest : List Value} : (RowI k xs rest).toList.take (xs.length * 1) = xs.map (Value.int k) := by
  simp [RowI]
theorem RowI_get {k : IntKind} {xs : List Int} {rest : List Value} {i : Nat} (h : i < xs.length) : (RowI k xs rest)[i]? = some (.int k xs[i]) := by
  simp [RowI, List.getElem?_append_left, h]
theorem RowI_set {k : IntKind} {xs : List Int} {rest : List Value} {i : Nat} (h : i < xs.length) (v : Int) : (RowI k xs rest).setIfInBounds i (.int k v) = RowI k (xs.set i v) rest := by
  apply Array.toList_inj.1
  simp only [RowI, Array.toList_setIfInBounds]
  rw [List.set_append_left _ _ (by simpa using h), List.map_set]
theorem RowI_of {k : IntKind} {cur : Array Value} {xs : List Int} (h : cur.toList.take (xs.length * 1) = xs.map (Value.int k)) : cur = RowI k xs (cur.toList.drop xs.length) := by
  apply Array.toList_inj.1
  simp only [RowI]
  rw [← h, Nat.mul_one, List.take_append_drop]
theorem v_iaO {t e : TypeId} {x y : Operand} {g len cap : Nat} {kk : IntKind} {j : Nat} (ho : o.op = .indexAddr t x y) (ht : P.underlying t = some (.slice e)) (hm : (P.info? e).map (·.size) = some 1) (hx : ev F x = some (.slice (some ⟨g, 0, none⟩) len cap)) (hy : ev F y = some (.int kk (j : Nat))) (h1 : j < len) : OpV P n w0 I o F L (.pointer (some ⟨g, j, none⟩)) := by
  have h := v_ia (P := P) (n := n) (w0 := w0) (I := I) (F := F) (L := L) ho ht hm hx hy (by omega) (by omega)
  have e1 : (⟨g, 0, none⟩ : Addr).add (((j : Nat) : Int).toNat * 1) = ⟨g, j, none⟩ := by
    rw [Int.toNat_natCast, Nat.mul_one]
    unfold Addr.add
    split <;> simp_all
  rw [e1] at h
  exact h
theorem v_ldO {k : IntKind} {t : TypeId} {x : Operand} {g j : Nat} {xs : List Int} {rest : List Value} {e : TypeId} {fz : Nat × Nat} {v : Int} {D : TypeDesc} (i : Nat) (ho : o.op = .load t x) (ht : P.underlying t = some D) (hd : notAgg D = true) (hx : ev F x = some (.pointer (some ⟨g, j, none⟩))) (hL : L[i]? = some (.b g (.cells (RowI k xs rest) e fz))) (hj : j < xs.length) (hv : xs[j] = v) : OpV P n w0 I o F L (.int k v) :=
  v_ld i ho ht hd hx hL (by rw [RowI_get hj, hv])
theorem e_stO {k : IntKind} {t : TypeId} {x y : Operand} {g j : Nat} {xs : List Int} {rest : List Value} {e : TypeId} {v : Int} (i : Nat) (ho : o.op = .store t x y) (hd : o.dst = none) (hm : (P.info? t).map (·.size) = some 1) (hx : ev F x = some (.pointer (some ⟨g, j, none⟩))) (hy : ev F y = some (.int k v))
    (hL : L[i]? = some (.b g (.cells (RowI k xs rest) e (0, 0)))) (hj : j < xs.length) : OpE P n w0 I o F L (fun X => X F (L.set i (.b g (.cells (RowI k (xs.set j v) rest) e (0, 0))))) := by
  have h := e_st (P := P) (n := n) (w0 := w0) (I := I) (F := F) i ho hd hm hx hy rfl hL (by simp [RowI]; omega)
  rw [RowI_set hj] at h
  exact h
end
end Go.Eng
namespace Go.Eng
open Go.RowKit Go.Proofs.YtiihjijmmephlaaW.PrintWords
set_option linter.unusedVariables false
set_option linter.unusedSimpArgs false
def RowB (us : List Bool) : Array Value := (us.map Value.bool).toArray
theorem RowB_get {us : List Bool} {i : Nat} (h : i < us.length) : (RowB us)[i]? = some (.bool (us.getD i false)) := by
  simp [RowB, List.getD_eq_getElem?_getD, h]
theorem RowB_set {us : List Bool} {i : Nat} (v : Bool) : (RowB us).setIfInBounds i (.bool v) = RowB (us.set i v) := by
  apply Array.toList_inj.1
  simp only [RowB, Array.toList_setIfInBounds, List.map_set]
section
variable {P : Program} {W : Code → (Exit → Act → World → Prop) → Act → World → Prop} {n : Sz} {w0 : World} {I : Ix} {F : FL} {L : HL} {o : Oper} {Q : Exit → Act → World → Prop}
theorem e_makeB {t e : TypeId} {x y : Operand} {d m : Nat} {k k' : IntKind} (ho : o.op = .makeSlice t x y) (hd : o.dst = some d) (hn : Nat.blt d n.n = true) (ht : P.underlying t = some (.slice e)) (hi : (P.info? e).map (fun i => (i.zero, i.size, i.bytes)) = some (some (.bool false), 1, 1)) (hx : ev F x = some (.int k (m : Nat))) (hy : ev F y = some (.int k' (m : Nat))) (hm : m ≤ 1000000) :
    OpE P n w0 I o F L (fun X => ∀ g, X ((d, .slice (some ⟨g, 0, none⟩) m m) :: F) (.b g (.cells (RowB (List.replicate m false)) e (0, 0)) :: L)) := by
  intro X hX a w hf htr K Q np hK
  obtain ⟨inf, hinf, hz⟩ := Option.map_eq_some_iff.1 hi
  simp only [Prod.mk.injEq] at hz
  have hrun := run_make (P := P) w t e inf (.bool false) ht hinf hz.1 k k' (m : Int) (m : Int) (by omega) (Int.le_refl _) (by rw [hz.2.2]; omega) (by omega)
  have hc : madeCells (Value.bool false).cells (((m : Nat) : Int).toNat * inf.size) = RowB (List.replicate m false) := by
    rw [hz.2.1, Int.toNat_natCast, Nat.mul_one]
    apply Array.ext
    · simp [madeCells, RowB]
    · intro i h1 h2
      have e1 : (Value.bool false).cells[i % (Value.bool false).cells.size]! = .bool false := by
        have : i % (Value.bool false).cells.size = 0 := Nat.mod_one i
        rw [this]; rfl
      simp only [madeCells, Array.getElem_map, Array.getElem_range, e1]
      simp [RowB]
  have hr : (execOp a.eval o).run P w = .ok (.value (.slice (some ⟨w.heap.size, 0, none⟩) m m)) { w with heap := w.heap.push (.cells (RowB (List.replicate m false)) e (0, 0)) } := by
    simp only [execOp, ho, hf.ev hx, hf.ev hy, Sem.run_bind, Sem.run_pure, Result.andThen_ok, hrun, Int.toNat_natCast]
    rw [Int.toNat_natCast] at hc
    rw [hc]
    rfl
  unfold Oper.wp
  rw [hr, Oper.upon_value, hd]
  exact hK _ _ (hX w.heap.size) _ _ (hf.put (blt_lt hn) _) (htr.alloc _)
theorem v_ldB {t : TypeId} {x : Operand} {g j : Nat} {us : List Bool} {e : TypeId} {fz : Nat × Nat} {D : TypeDesc} (i : Nat) (ho : o.op = .load t x) (ht : P.underlying t = some D) (hd : notAgg D = true) (hx : ev F x = some (.pointer (some ⟨g, j, none⟩))) (hL : L[i]? = some (.b g (.cells (RowB us) e fz))) (hj : j < us.length) : OpV P n w0 I o F L (.bool (us.getD j false)) :=
  v_ld i ho ht hd hx hL (RowB_get hj)
theorem e_stB {t : TypeId} {x y : Operand} {g j : Nat} {us : List Bool} {e : TypeId} {v : Bool} (i : Nat) (ho : o.op = .store t x y) (hd : o.dst = none) (hm : (P.info? t).map (·.size) = some 1) (hx : ev F x = some (.pointer (some ⟨g, j, none⟩))) (hy : ev F y = some (.bool v))
    (hL : L[i]? = some (.b g (.cells (RowB us) e (0, 0)))) (hj : j < us.length) : OpE P n w0 I o F L (fun X => X F (L.set i (.b g (.cells (RowB (us.set j v)) e (0, 0))))) := by
  have h := e_st (P := P) (n := n) (w0 := w0) (I := I) (F := F) i ho hd hm hx hy rfl hL (by simp [RowB]; omega)
  rw [RowB_set] at h
  exact h
theorem v_ldKqA {α : Type} {D : Kd α} {t : TypeId} {x : Operand} {dd : TypeDesc} {A : Option Addr} {l : List α} {c m q s : Nat} {j : Int} (z : α) (vs : List Value) (i : Nat) (ho : o.op = .load t x) (ht : P.underlying t = some dd) (hd : notAgg dd = false) (hm : (P.info? t).map (·.size) = some s) (hx : ev F x = some (.pointer (some ((at0 A j m).add q)))) (hL : L[i]? = some (.f (KC D A c l))) (hl : vs.length = s) (hsz : D.sz = m) (h0 : 0 ≤ j) (h1 : j < (l.length : Int)) (hopen : ∀ w K, D.K w (l.getD j.toNat z) K → ∀ p v, vs[p]? = some v → K[q + p]? = some v) : OpV P n w0 I o F L (.agg vs.toArray) :=
  v_ldAf vs i ho ht hd hm hx hL hl (fun w hw p v hp => by
    subst hsz
    obtain ⟨ad, K, rfl, _, hK, hc⟩ := Kd.C_get hw.1 z j h0 h1
    have := hc (q + p) v (hopen w K hK p v hp)
    unfold at0
    rw [Option.getD_some, Go.Deep.add_add, Go.Deep.add_add]
    exact this)
theorem c_scope {c : Code} (h : cK c = 11) (k : CW P (Code.wp P) n w0 I (cA c) (Exit.noGoto Q) F L) : CW P (Code.wp P) n w0 I c Q F L := by
  intro fl np a w hf ht
  have : c = .scope (cA c) := by cases c <;> first | (simp [cK] at h; done) | rfl | (rename_i d; cases d <;> first | rfl | (simp [cK] at h; done))
  rw [this]
  exact wp_scope_straight (k fl ⟨fun ch a w hq => np.1 ch a w hq, fun a w hq => np.2 a w hq⟩ a w hf ht)
theorem c_label {c : Code} (h : cK c = 12) (k : QW P (Code.wp P) n w0 I .normal Q F L) : CW P (Code.wp P) n w0 I c Q F L := by
  intro fl np a w hf ht
  obtain ⟨i, rfl⟩ : ∃ i, c = .label i := by cases c <;> first | (simp [cK] at h; done) | exact ⟨_, rfl⟩ | (rename_i d; cases d <;> simp [cK] at h)
  exact wp_label (k fl np a w hf ht)
theorem np_scope (h : NP (Exit.noGoto Q)) : NP Q := ⟨fun ch a w hq => h.1 ch a w hq, fun a w hq => h.2 a w hq⟩
theorem q_scope_r (k : QW P W n w0 I .ret Q F L) : QW P W n w0 I .ret (Exit.noGoto Q) F L := fun fl np a w hf ht => k fl (np_scope np) a w hf ht
theorem a_know {ops : Array Oper} {S : HL} {fuel : Nat} {listed : Array Bool} {p : Prop} {φ : World → Prop} (i : Nat) (hL : L[i]? = some (.f φ)) (hφ : ∀ w, φ w → p) (k : p → AW P W n w0 I ops Q S fuel listed F L) : AW P W n w0 I ops Q S fuel listed F L :=
  fun fl np a w hf ht hS => k (hφ w (ht.facts _ (List.mem_of_getElem? hL)).here) fl np a w hf ht hS
theorem a_weak {ops : Array Oper} {S : HL} {fuel : Nat} {listed : Array Bool} {φ ψ : World → Prop} (i : Nat) (hL : L[i]? = some (.f φ)) (h : ∀ w, φ w → ψ w) (k : AW P W n w0 I ops Q S fuel listed F (.f ψ :: L)) : AW P W n w0 I ops Q S fuel listed F L :=
  fun fl np a w hf ht hS => k fl np a w hf (ht.know (fun w' ha => h w' (ht.facts _ (List.mem_of_getElem? hL) w' ha))) hS
end
end Go.Eng
namespace Go.Eng
open Go.Proofs Go.RowKit Go.Proofs.YtiihjijmmephlaaW.PrintWords Go.Proofs.Ytiihjijmmephlaa.GHist
set_option linter.unusedVariables false
theorem eqS56 (x0 : Int) (x1 : Int) (y0 : Int) (y1 : Int) (d : Nat) (w : World) : (Op.equalIn (d + 2) 56 (.agg #[.int .u64 x0, .int .u64 x1]) (.agg #[.int .u64 y0, .int .u64 y1])).run Try.prog w = .ok ((x0 == y0) && ((x1 == y1))) w := by
  refine eqA_of Try.underlying56 (by kernel_rfl) ?_
  refine eqf_cons (by rfl) (by go_simp; rfl) (by go_simp; rfl) (by go_simp) ?_
  exact eqf_last (by rfl) (by go_simp; rfl) (by go_simp; rfl) (by go_simp)
end Go.Eng
namespace Go.Eng
set_option linter.unusedVariables false
set_option linter.unusedSimpArgs false
def gt (xs : List Int) (p : Nat) : Int := xs.getD p 0
theorem gt_eq {xs : List Int} {p : Nat} (h : p < xs.length) : gt xs p = xs[p] := by simp [gt, List.getD_eq_getElem?_getD, h]
theorem gt_set {xs : List Int} {i : Nat} {v : Int} (hi : i < xs.length) (p : Nat) : gt (xs.set i v) p = if p = i then v else gt xs p := by
  simp only [gt, List.getD_eq_getElem?_getD, List.getElem?_set]
  by_cases h : i = p
  · subst h; simp [hi]
  · have : ¬ p = i := fun e => h e.symm
    simp [h, this]
def swp (xs : List Int) (i j : Nat) : List Int := (xs.set i (gt xs j)).set j (gt xs i)
theorem swp_len (xs : List Int) (i j : Nat) : (swp xs i j).length = xs.length := by simp [swp]
theorem gt_swp {xs : List Int} {i j : Nat} (hi : i < xs.length) (hj : j < xs.length) (p : Nat) : gt (swp xs i j) p = if p = j then gt xs i else if p = i then gt xs j else gt xs p := by
  unfold swp
  rw [gt_set (by simpa using hj), gt_set hi]
theorem swp_perm {xs : List Int} {i j : Nat} (hi : i < xs.length) (hj : j < xs.length) : (swp xs i j).Perm xs := by
  unfold swp
  rw [gt_eq hi, gt_eq hj]
  exact List.set_set_perm hi hj
def swr (xs : List Int) (a b : Nat) : Nat → List Int
  | 0 => xs
  | n + 1 => swp (swr xs a b n) (a + n) (b + n)
theorem swr_len (xs : List Int) (a b n : Nat) : (swr xs a b n).length = xs.length := by
  induction n with
  | zero => rfl
  | succ n ih => rw [swr, swp_len, ih]
theorem swr_perm (xs : List Int) (a b : Nat) : ∀ n, a + n ≤ xs.length → b + n ≤ xs.length → (swr xs a b n).Perm xs
  | 0, _, _ => List.Perm.refl _
  | n + 1, h1, h2 => (swp_perm (by rw [swr_len]; omega) (by rw [swr_len]; omega)).trans (swr_perm xs a b n (by omega) (by omega))
theorem gt_swr (xs : List Int) (a b : Nat) : ∀ n, a + n ≤ b → b + n ≤ xs.length → ∀ p, gt (swr xs a b n) p = if a ≤ p ∧ p < a + n then gt xs (b + (p - a)) else if b ≤ p ∧ p < b + n then gt xs (a + (p - b)) else gt xs p
  | 0, h1, h2, p => by
    rw [if_neg (by omega), if_neg (by omega)]; rfl
  | n + 1, h1, h2, p => by
    have ih := gt_swr xs a b n (by omega) (by omega)
    rw [swr, gt_swp (by rw [swr_len]; omega) (by rw [swr_len]; omega), ih, ih, ih]
    by_cases e1 : p = b + n
    · subst e1
      rw [if_pos rfl, if_neg (by omega), if_neg (by omega), if_neg (by omega), if_pos (by omega)]
      congr 1; omega
    · rw [if_neg e1]
      by_cases e2 : p = a + n
      · subst e2
        rw [if_pos rfl, if_neg (by omega), if_neg (by omega), if_pos (by omega)]
        congr 1; omega
      · rw [if_neg e2]
        by_cases e3 : a ≤ p ∧ p < a + n
        · rw [if_pos e3, if_pos (by omega)]
        · rw [if_neg e3]
          by_cases e4 : b ≤ p ∧ p < b + n
          · rw [if_pos e4, if_neg (show ¬ (a ≤ p ∧ p < a + (n + 1)) by omega), if_pos (show b ≤ p ∧ p < b + (n + 1) by omega)]
          · rw [if_neg e4, if_neg (show ¬ (a ≤ p ∧ p < a + (n + 1)) by omega), if_neg (show ¬ (b ≤ p ∧ p < b + (n + 1)) by omega)]
def RotT (xs : List Int) (a m b p : Nat) : Int := if a ≤ p ∧ p < b then (if p < a + (b - m) then gt xs (p + (m - a)) else gt xs (p - (b - m))) else gt xs p
structure Rot (xs : List Int) (a m b : Nat) (ys : List Int) : Prop where
  perm : ys.Perm xs
  at_ : ∀ p, gt ys p = RotT xs a m b p
structure RotI (xs : List Int) (a m b i j : Nat) (ys : List Int) : Prop where
  perm : ys.Perm xs
  i0 : 0 < i
  j0 : 0 < j
  lo : a + i ≤ m
  hi : m + j ≤ b
  out : ∀ p, (p < m - i ∨ m + j ≤ p) → gt ys p = RotT xs a m b p
  inn : ∀ p, m - i ≤ p → p < m + j → RotT xs a m b p = if p < m - i + j then gt ys (p + i) else gt ys (p - j)
theorem RotI.len {xs ys : List Int} {a m b i j : Nat} (h : RotI xs a m b i j ys) : ys.length = xs.length := h.perm.length_eq
theorem RotI.start {xs : List Int} {a m b : Nat} (h1 : a < m) (h2 : m < b) (hb : b ≤ xs.length) : RotI xs a m b (m - a) (b - m) xs := by
  refine ⟨List.Perm.refl _, by omega, by omega, by omega, by omega, fun p hp => ?_, fun p hp hq => ?_⟩
  · unfold RotT; rw [if_neg (by omega)]
  · unfold RotT
    rw [if_pos (by omega)]
    by_cases e : p < a + (b - m)
    · rw [if_pos e, if_pos (by omega)]
    · rw [if_neg e, if_neg (by omega)]
theorem RotI.left {xs ys : List Int} {a m b i j : Nat} (h : RotI xs a m b i j ys) (hb : b ≤ xs.length) (hij : j < i) : RotI xs a m b (i - j) j (swr ys (m - i) m j) := by
  have hl := h.len
  have := h.lo; have := h.hi; have := h.i0; have := h.j0
  have hg := gt_swr ys (m - i) m j (by omega) (by omega)
  refine ⟨(swr_perm _ _ _ _ (by omega) (by omega)).trans h.perm, by omega, by omega, by omega, by omega, fun p hp => ?_, fun p hp hq => ?_⟩
  · rw [hg]
    by_cases e : m - i ≤ p ∧ p < m - i + j
    · rw [if_pos e, h.inn p (by omega) (by omega), if_pos (by omega)]
      congr 1; omega
    · rw [if_neg e, if_neg (by omega)]
      exact h.out p (by omega)
  · rw [h.inn p (by omega) (by omega), hg, hg, if_neg (by omega)]
    by_cases e : p < m - (i - j) + j
    · rw [if_pos e, if_neg (by omega)]
      by_cases e2 : m ≤ p + (i - j) ∧ p + (i - j) < m + j
      · rw [if_pos e2]; congr 1; omega
      · exfalso; omega
    · rw [if_neg e, if_neg (by omega), if_neg (by omega)]
theorem RotI.right {xs ys : List Int} {a m b i j : Nat} (h : RotI xs a m b i j ys) (hb : b ≤ xs.length) (hij : i < j) : RotI xs a m b i (j - i) (swr ys (m - i) (m + j - i) i) := by
  have hl := h.len
  have := h.lo; have := h.hi; have := h.i0; have := h.j0
  have hg := gt_swr ys (m - i) (m + j - i) i (by omega) (by omega)
  refine ⟨(swr_perm _ _ _ _ (by omega) (by omega)).trans h.perm, by omega, by omega, by omega, by omega, fun p hp => ?_, fun p hp hq => ?_⟩
  · rw [hg]
    by_cases e : m + j - i ≤ p ∧ p < m + j - i + i
    · rw [if_neg (by omega), if_pos e, h.inn p (by omega) (by omega), if_neg (by omega)]
      congr 1; omega
    · rw [if_neg (by omega), if_neg e]
      exact h.out p (by omega)
  · rw [h.inn p (by omega) (by omega), hg, hg]
    by_cases e : p < m - i + (j - i)
    · rw [if_pos (by omega), if_pos e, if_neg (by omega), if_neg (by omega)]
    · rw [if_neg e]
      by_cases e2 : p < m - i + j
      · rw [if_pos e2, if_pos (by omega)]; congr 1; omega
      · exfalso; omega
theorem RotI.last {xs ys : List Int} {a m b i j : Nat} (h : RotI xs a m b i j ys) (hb : b ≤ xs.length) (hij : i = j) : Rot xs a m b (swr ys (m - i) m i) := by
  subst hij
  have hl := h.len
  have := h.lo; have := h.hi; have := h.i0
  have hg := gt_swr ys (m - i) m i (by omega) (by omega)
  refine ⟨(swr_perm _ _ _ _ (by omega) (by omega)).trans h.perm, fun p => ?_⟩
  rw [hg]
  by_cases e : m - i ≤ p ∧ p < m - i + i
  · rw [if_pos e, h.inn p (by omega) (by omega), if_pos (by omega)]; congr 1; omega
  · rw [if_neg e]
    by_cases e2 : m ≤ p ∧ p < m + i
    · rw [if_pos e2, h.inn p (by omega) (by omega), if_neg (by omega)]; congr 1; omega
    · rw [if_neg e2]; exact h.out p (by omega)
end Go.Eng
namespace Go.Eng
set_option linter.unusedVariables false
set_option linter.unusedSimpArgs false
theorem wrapI {x : Int} (h1 : -9223372036854775808 ≤ x) (h2 : x ≤ 9223372036854775807) : IntKind.wrap .i64 x = x := by
  simp only [IntKind.wrap, IntKind.bits, IntKind.signed]
  simp
  omega
theorem wrapU {x : Int} (h1 : 0 ≤ x) (h2 : x ≤ 9223372036854775807) : IntKind.wrap .u64 x = x := by
  simp only [IntKind.wrap, IntKind.bits, IntKind.signed]
  simp
  omega
theorem addN {a b : Nat} (h : a + b < 4611686018427387904) : Value.int .i64 (IntKind.wrap .i64 ((a : Int) + (b : Int))) = .int .i64 ((a + b : Nat) : Int) := by
  rw [wrapI (by omega) (by omega)]; congr 1
theorem subN {a b : Nat} (h : b ≤ a) (h2 : a < 4611686018427387904) : Value.int .i64 (IntKind.wrap .i64 ((a : Int) - (b : Int))) = .int .i64 ((a - b : Nat) : Int) := by
  rw [wrapI (by omega) (by omega)]; congr 1; omega
theorem mulN {a b : Nat} (h : a * b < 4611686018427387904) : Value.int .i64 (IntKind.wrap .i64 ((a : Int) * (b : Int))) = .int .i64 ((a * b : Nat) : Int) := by
  rw [show (a : Int) * (b : Int) = ((a * b : Nat) : Int) from (Int.natCast_mul a b).symm, wrapI (by omega) (by omega)]
theorem cuN {a : Nat} (h : a < 4611686018427387904) : Value.int .u64 (IntKind.wrap .u64 (a : Int)) = .int .u64 ((a : Nat) : Int) := by
  rw [wrapU (by omega) (by omega)]
theorem ciN {a : Nat} (h : a < 4611686018427387904) : Value.int .i64 (IntKind.wrap .i64 (a : Int)) = .int .i64 ((a : Nat) : Int) := by
  rw [wrapI (by omega) (by omega)]
theorem shN {a : Nat} : Value.int .u64 (Int.fdiv (a : Int) (2 ^ (min (Int.toNat 1) (IntKind.bits .u64)))) = .int .u64 ((a / 2 : Nat) : Int) := by
  congr 1
  have : (2 : Int) ^ (min (Int.toNat 1) (IntKind.bits .u64)) = 2 := by decide
  rw [this]
  rw [Int.fdiv_eq_ediv_of_nonneg _ (by omega)]
  omega
end Go.Eng
namespace Go.Eng
set_option linter.unusedVariables false
set_option linter.unusedSimpArgs false
def cmp3 (a b : Int) : Int := if a < b then -1 else if a > b then 1 else 0
theorem cmp3_lt {a b : Int} : cmp3 a b < 0 ↔ a < b := by
  unfold cmp3
  split
  · simp; assumption
  · split <;> simp <;> omega
section
variable (key : Int → Int)
def Ah (x y : Int) : Prop := key x < key y ∨ (key x = key y ∧ x < y)
def SS (a b : Nat) (xs : List Int) : Prop := ∀ i j, a ≤ i → i < j → j < b → Ah key (gt xs i) (gt xs j)
structure Sd (a b : Nat) (xs ys : List Int) : Prop where
  perm : ys.Perm xs
  out : ∀ p, p < a ∨ b ≤ p → gt ys p = gt xs p
  mem : ∀ p, a ≤ p → p < b → ∃ q, a ≤ q ∧ q < b ∧ gt ys p = gt xs q
  ss : SS key a b ys
end
section
variable {key : Int → Int}
theorem Ah.le {x y : Int} (h : Ah key x y) : key x ≤ key y := by rcases h with h | h <;> omega
theorem SS.key_le {a b : Nat} {xs : List Int} (h : SS key a b xs) {i j : Nat} (h1 : a ≤ i) (h2 : i ≤ j) (h3 : j < b) : key (gt xs i) ≤ key (gt xs j) := by
  by_cases e : i = j
  · subst e; omega
  · exact (h i j h1 (by omega) h3).le
theorem SS.congr {a b : Nat} {xs ys : List Int} (h : SS key a b xs) (he : ∀ p, a ≤ p → p < b → gt ys p = gt xs p) : SS key a b ys := by
  intro i j h1 h2 h3
  rw [he i h1 (by omega), he j (by omega) h3]
  exact h i j h1 h2 h3
theorem SS.small {a b : Nat} {xs : List Int} (h : b ≤ a + 1) : SS key a b xs := by intro i j h1 h2 h3; omega
theorem Sd.len {a b : Nat} {xs ys : List Int} (h : Sd key a b xs ys) : ys.length = xs.length := h.perm.length_eq
theorem Sd.triv {a b : Nat} {xs : List Int} (h : SS key a b xs) : Sd key a b xs xs := ⟨List.Perm.refl _, fun _ _ => rfl, fun p h1 h2 => ⟨p, h1, h2, rfl⟩, h⟩
structure InO (key : Int → Int) (xs : List Int) (a b i : Nat) (ys : List Int) : Prop where
  perm : ys.Perm xs
  out : ∀ p, p < a ∨ i ≤ p → gt ys p = gt xs p
  mem : ∀ p, a ≤ p → p < i → ∃ q, a ≤ q ∧ q < i ∧ gt ys p = gt xs q
  ss : SS key a i ys
  st : i = a + 1 → ys = xs
theorem InO.len {xs ys : List Int} {a b i : Nat} (h : InO key xs a b i ys) : ys.length = xs.length := h.perm.length_eq
theorem InO.start (xs : List Int) (a b : Nat) : InO key xs a b (a + 1) xs := ⟨List.Perm.refl _, fun _ _ => rfl, fun p h1 h2 => ⟨p, h1, h2, rfl⟩, SS.small (by omega), fun _ => rfl⟩
structure InI (key : Int → Int) (ys : List Int) (a i j : Nat) (zs : List Int) : Prop where
  perm : zs.Perm ys
  aj : a ≤ j
  ji : j ≤ i
  at_ : ∀ p, gt zs p = if p = j then gt ys i else if j < p ∧ p ≤ i then gt ys (p - 1) else gt ys p
  gt_ : ∀ p, j ≤ p → p < i → key (gt ys i) < key (gt ys p)
theorem InI.len {ys zs : List Int} {a i j : Nat} (h : InI key ys a i j zs) : zs.length = ys.length := h.perm.length_eq
theorem InI.start {ys : List Int} {a i : Nat} (h : a ≤ i) : InI key ys a i i ys := by
  refine ⟨List.Perm.refl _, h, Nat.le_refl _, fun p => ?_, fun p h1 h2 => by omega⟩
  by_cases e : p = i
  · subst e; rw [if_pos rfl]
  · rw [if_neg e, if_neg (by omega)]
theorem InI.step {ys zs : List Int} {a i j : Nat} (h : InI key ys a i j zs) (hi : i < ys.length) (hj : a < j) (hc : key (gt zs j) < key (gt zs (j - 1))) : InI key ys a i (j - 1) (swp zs j (j - 1)) := by
  have hl := h.len
  have := h.ji
  have hg := gt_swp (xs := zs) (i := j) (j := j - 1) (by omega) (by omega)
  have e1 : gt zs j = gt ys i := by rw [h.at_, if_pos rfl]
  have e2 : gt zs (j - 1) = gt ys (j - 1) := by rw [h.at_, if_neg (by omega), if_neg (by omega)]
  rw [e1, e2] at hc
  refine ⟨(swp_perm (by omega) (by omega)).trans h.perm, by omega, by omega, fun p => ?_, fun p h1 h2 => ?_⟩
  · rw [hg]
    by_cases c1 : p = j - 1
    · rw [if_pos c1, if_pos c1, e1]
    · rw [if_neg c1, if_neg c1]
      by_cases c2 : p = j
      · rw [if_pos c2, if_pos (by omega), e2, c2]
      · rw [if_neg c2, h.at_, if_neg c2]
        by_cases c3 : j < p ∧ p ≤ i
        · rw [if_pos c3, if_pos (by omega)]
        · rw [if_neg c3, if_neg (by omega)]
  · by_cases e : p = j - 1
    · subst e; exact hc
    · exact h.gt_ p (by omega) h2
theorem InI.done {xs ys zs : List Int} {a b i j : Nat} (ho : InO key xs a b i ys) (h : InI key ys a i j zs) (ha : a < i) (hib : i < b) (hb : b ≤ xs.length) (hinc : ∀ p q, a ≤ p → p < q → q < b → gt xs p < gt xs q) (hend : j = a ∨ ¬ key (gt zs j) < key (gt zs (j - 1))) : InO key xs a b (i + 1) zs := by
  have h1 := h.ji; have h2 := h.aj
  have hx : gt ys i = gt xs i := ho.out i (.inr (Nat.le_refl _))
  have hlt : ∀ p, a ≤ p → p < i → gt ys p < gt xs i := fun p hp hq => by
    obtain ⟨q, q1, q2, q3⟩ := ho.mem p hp hq
    rw [q3]
    exact hinc q i q1 q2 hib
  have hle : ∀ p, a ≤ p → p < j → key (gt ys p) ≤ key (gt xs i) := fun p hp hq => by
    rcases hend with hend | hend
    · omega
    · have e1 : gt zs j = gt ys i := by rw [h.at_, if_pos rfl]
      have e2 : gt zs (j - 1) = gt ys (j - 1) := by rw [h.at_, if_neg (by omega), if_neg (by omega)]
      rw [e1, e2, hx] at hend
      have := ho.ss.key_le hp (show p ≤ j - 1 by omega) (by omega)
      omega
  refine ⟨h.perm.trans ho.perm, fun p hp => ?_, fun p hp hq => ?_, ?_, fun e => by omega⟩
  · rw [h.at_, if_neg (by omega), if_neg (by omega)]
    exact ho.out p (by omega)
  · rw [h.at_]
    by_cases c1 : p = j
    · rw [if_pos c1, hx]; exact ⟨i, by omega, by omega, rfl⟩
    · rw [if_neg c1]
      by_cases c2 : j < p ∧ p ≤ i
      · rw [if_pos c2]
        obtain ⟨q, q1, q2, q3⟩ := ho.mem (p - 1) (by omega) (by omega)
        exact ⟨q, q1, by omega, q3⟩
      · rw [if_neg c2]
        obtain ⟨q, q1, q2, q3⟩ := ho.mem p hp (by omega)
        exact ⟨q, q1, by omega, q3⟩
  · intro p q hp hpq hq
    rw [h.at_ p, h.at_ q]
    by_cases c1 : p = j
    · rw [if_pos c1, if_neg (by omega), if_pos (by omega)]
      exact .inl (h.gt_ (q - 1) (by omega) (by omega))
    · rw [if_neg c1]
      by_cases c2 : j < p ∧ p ≤ i
      · rw [if_pos c2, if_neg (by omega), if_pos (by omega)]
        exact ho.ss _ _ (by omega) (by omega) (by omega)
      · rw [if_neg c2]
        by_cases c3 : q = j
        · rw [if_pos c3, hx]
          have k1 := hle p hp (by omega)
          have k2 := hlt p hp (by omega)
          by_cases k3 : key (gt ys p) = key (gt xs i)
          · exact .inr ⟨k3, k2⟩
          · exact .inl (by omega)
        · rw [if_neg c3]
          by_cases c4 : j < q ∧ q ≤ i
          · rw [if_pos c4]
            exact ho.ss _ _ hp (by omega) (by omega)
          · rw [if_neg c4]
            exact ho.ss _ _ hp hpq (by omega)
theorem InO.done {xs ys : List Int} {a b i : Nat} (h : InO key xs a b i ys) (hi : b ≤ i) (hi2 : i ≤ b ∨ i = a + 1) : Sd key a b xs ys := by
  by_cases e : i = a + 1
  · rw [h.st e]; exact Sd.triv (SS.small (by omega))
  · obtain rfl : i = b := by omega
    exact ⟨h.perm, h.out, h.mem, h.ss⟩
structure Mg (key : Int → Int) (xs : List Int) (a m b : Nat) : Prop where
  am : a < m
  mb : m < b
  l : SS key a m xs
  r : SS key m b xs
  lt : ∀ p q, a ≤ p → p < m → m ≤ q → q < b → gt xs p < gt xs q
theorem Ah.of {x y : Int} (h : x < y) (hk : ¬ key y < key x) : Ah key x y := by
  by_cases e : key x = key y
  · exact .inr ⟨e, h⟩
  · exact .inl (by omega)
structure BsA (key : Int → Int) (xs : List Int) (a m b i j : Nat) : Prop where
  mi : m ≤ i
  ij : i ≤ j
  jb : j ≤ b
  lo : ∀ q, m ≤ q → q < i → key (gt xs q) < key (gt xs a)
  hi : ∀ q, j ≤ q → q < b → ¬ key (gt xs q) < key (gt xs a)
theorem BsA.start {xs : List Int} {a m b : Nat} (h : m ≤ b) : BsA key xs a m b m b := ⟨Nat.le_refl _, h, Nat.le_refl _, fun q h1 h2 => by omega, fun q h1 h2 => by omega⟩
theorem BsA.yes {xs : List Int} {a m b i j : Nat} (h : BsA key xs a m b i j) (hs : SS key m b xs) (hij : i < j) (hc : key (gt xs ((i + j) / 2)) < key (gt xs a)) : BsA key xs a m b ((i + j) / 2 + 1) j := by
  have := h.mi; have := h.jb
  refine ⟨by omega, by omega, h.jb, fun q h1 h2 => ?_, h.hi⟩
  have := hs.key_le h1 (show q ≤ (i + j) / 2 by omega) (by omega)
  omega
theorem BsA.no {xs : List Int} {a m b i j : Nat} (h : BsA key xs a m b i j) (hs : SS key m b xs) (hij : i < j) (hc : ¬ key (gt xs ((i + j) / 2)) < key (gt xs a)) : BsA key xs a m b i ((i + j) / 2) := by
  have := h.mi; have := h.jb
  refine ⟨h.mi, by omega, by omega, h.lo, fun q h1 h2 => ?_⟩
  have := hs.key_le (show m ≤ (i + j) / 2 by omega) h1 h2
  omega
structure MvR (xs : List Int) (a k : Nat) (ys : List Int) : Prop where
  perm : ys.Perm xs
  ak : a ≤ k
  at_ : ∀ p, gt ys p = if a ≤ p ∧ p < k then gt xs (p + 1) else if p = k then gt xs a else gt xs p
theorem MvR.len {xs ys : List Int} {a k : Nat} (h : MvR xs a k ys) : ys.length = xs.length := h.perm.length_eq
theorem MvR.start (xs : List Int) (a : Nat) : MvR xs a a xs := ⟨List.Perm.refl _, Nat.le_refl _, fun p => by
  rw [if_neg (by omega)]
  by_cases e : p = a
  · rw [if_pos e, e]
  · rw [if_neg e]⟩
theorem MvR.step {xs ys : List Int} {a k : Nat} (h : MvR xs a k ys) (hk : k + 1 < xs.length) : MvR xs a (k + 1) (swp ys k (k + 1)) := by
  have hl := h.len; have := h.ak
  have hg := gt_swp (xs := ys) (i := k) (j := k + 1) (by omega) (by omega)
  refine ⟨(swp_perm (by omega) (by omega)).trans h.perm, by omega, fun p => ?_⟩
  rw [hg]
  by_cases c1 : p = k + 1
  · rw [if_pos c1, if_neg (by omega), if_pos c1, h.at_, if_neg (by omega), if_pos rfl]
  · rw [if_neg c1]
    by_cases c2 : p = k
    · subst c2; rw [if_pos rfl, if_pos (by omega), h.at_, if_neg (by omega), if_neg (by omega)]
    · rw [if_neg c2, h.at_]
      by_cases c3 : a ≤ p ∧ p < k
      · rw [if_pos c3, if_pos (by omega)]
      · rw [if_neg c3, if_neg c2, if_neg (by omega), if_neg c1]
theorem MvR.done {xs ys : List Int} {a m b i : Nat} (hm : Mg key xs a m b) (h1 : m = a + 1) (hb : BsA key xs a m b i i) (h : MvR xs a (i - 1) ys) : Sd key a b xs ys := by
  have := hb.mi; have := hb.jb; have := hm.mb
  refine ⟨h.perm, fun p hp => ?_, fun p hp hq => ?_, fun p q hp hpq hq => ?_⟩
  · rw [h.at_, if_neg (by omega), if_neg (by omega)]
  · rw [h.at_]
    by_cases c : a ≤ p ∧ p < i - 1
    · rw [if_pos c]; exact ⟨p + 1, by omega, by omega, rfl⟩
    · rw [if_neg c]
      by_cases c2 : p = i - 1
      · rw [if_pos c2]; exact ⟨a, by omega, by omega, rfl⟩
      · rw [if_neg c2]; exact ⟨p, hp, hq, rfl⟩
  · rw [h.at_ p, h.at_ q]
    by_cases c : p < i - 1
    · rw [if_pos (by omega)]
      by_cases c2 : q < i - 1
      · rw [if_pos (by omega)]; exact hm.r _ _ (by omega) (by omega) (by omega)
      · rw [if_neg (by omega)]
        by_cases c3 : q = i - 1
        · rw [if_pos c3]; exact .inl (hb.lo (p + 1) (by omega) (by omega))
        · rw [if_neg c3]; exact hm.r _ _ (by omega) (by omega) (by omega)
    · rw [if_neg (by omega), if_neg (show ¬ (a ≤ q ∧ q < i - 1) by omega), if_neg (show ¬ q = i - 1 by omega)]
      by_cases c2 : p = i - 1
      · rw [if_pos c2]; exact Ah.of (hm.lt a q (by omega) (by omega) (by omega) hq) (hb.hi q (by omega) hq)
      · rw [if_neg c2]; exact hm.r _ _ (by omega) (by omega) (by omega)
structure BsB (key : Int → Int) (xs : List Int) (a m i j : Nat) : Prop where
  ai : a ≤ i
  ij : i ≤ j
  jm : j ≤ m
  lo : ∀ p, a ≤ p → p < i → ¬ key (gt xs m) < key (gt xs p)
  hi : ∀ p, j ≤ p → p < m → key (gt xs m) < key (gt xs p)
theorem BsB.start {xs : List Int} {a m : Nat} (h : a ≤ m) : BsB key xs a m a m := ⟨Nat.le_refl _, h, Nat.le_refl _, fun q h1 h2 => by omega, fun q h1 h2 => by omega⟩
theorem BsB.yes {xs : List Int} {a m i j : Nat} (h : BsB key xs a m i j) (hs : SS key a m xs) (hij : i < j) (hc : ¬ key (gt xs m) < key (gt xs ((i + j) / 2))) : BsB key xs a m ((i + j) / 2 + 1) j := by
  have := h.ai; have := h.jm
  refine ⟨by omega, by omega, h.jm, fun q h1 h2 => ?_, h.hi⟩
  have := hs.key_le h1 (show q ≤ (i + j) / 2 by omega) (by omega)
  omega
theorem BsB.no {xs : List Int} {a m i j : Nat} (h : BsB key xs a m i j) (hs : SS key a m xs) (hij : i < j) (hc : key (gt xs m) < key (gt xs ((i + j) / 2))) : BsB key xs a m i ((i + j) / 2) := by
  have := h.ai; have := h.jm
  refine ⟨h.ai, by omega, by omega, h.lo, fun q h1 h2 => ?_⟩
  have := hs.key_le (show a ≤ (i + j) / 2 by omega) h1 h2
  omega
structure MvL (xs : List Int) (m k : Nat) (ys : List Int) : Prop where
  perm : ys.Perm xs
  km : k ≤ m
  at_ : ∀ p, gt ys p = if p = k then gt xs m else if k < p ∧ p ≤ m then gt xs (p - 1) else gt xs p
theorem MvL.len {xs ys : List Int} {m k : Nat} (h : MvL xs m k ys) : ys.length = xs.length := h.perm.length_eq
theorem MvL.start (xs : List Int) (m : Nat) : MvL xs m m xs := ⟨List.Perm.refl _, Nat.le_refl _, fun p => by
  by_cases e : p = m
  · rw [if_pos e, e]
  · rw [if_neg e, if_neg (by omega)]⟩
theorem MvL.step {xs ys : List Int} {m k : Nat} (h : MvL xs m k ys) (hm : m < xs.length) (hk : 0 < k) : MvL xs m (k - 1) (swp ys k (k - 1)) := by
  have hl := h.len; have := h.km
  have hg := gt_swp (xs := ys) (i := k) (j := k - 1) (by omega) (by omega)
  refine ⟨(swp_perm (by omega) (by omega)).trans h.perm, by omega, fun p => ?_⟩
  rw [hg]
  by_cases c1 : p = k - 1
  · rw [if_pos c1, if_pos c1, h.at_, if_pos rfl]
  · rw [if_neg c1, if_neg c1]
    by_cases c2 : p = k
    · rw [if_pos c2, if_pos (by omega), h.at_, if_neg (by omega), if_neg (by omega), c2]
    · rw [if_neg c2, h.at_, if_neg c2]
      by_cases c3 : k < p ∧ p ≤ m
      · rw [if_pos c3, if_pos (by omega)]
      · rw [if_neg c3, if_neg (by omega)]
theorem MvL.done {xs ys : List Int} {a m b i : Nat} (hm : Mg key xs a m b) (h1 : b = m + 1) (hb : BsB key xs a m i i) (h : MvL xs m i ys) : Sd key a b xs ys := by
  have := hb.ai; have := hb.jm; have := hm.am
  refine ⟨h.perm, fun p hp => ?_, fun p hp hq => ?_, fun p q hp hpq hq => ?_⟩
  · rw [h.at_, if_neg (by omega), if_neg (by omega)]
  · rw [h.at_]
    by_cases c : p = i
    · rw [if_pos c]; exact ⟨m, by omega, by omega, rfl⟩
    · rw [if_neg c]
      by_cases c2 : i < p ∧ p ≤ m
      · rw [if_pos c2]; exact ⟨p - 1, by omega, by omega, rfl⟩
      · rw [if_neg c2]; exact ⟨p, hp, hq, rfl⟩
  · rw [h.at_ p, h.at_ q]
    by_cases c : p = i
    · rw [if_pos c, if_neg (by omega), if_pos (by omega)]
      exact .inl (hb.hi (q - 1) (by omega) (by omega))
    · rw [if_neg c]
      by_cases c2 : i < p ∧ p ≤ m
      · rw [if_pos c2, if_neg (by omega), if_pos (by omega)]
        exact hm.l _ _ (by omega) (by omega) (by omega)
      · rw [if_neg c2]
        by_cases c3 : q = i
        · rw [if_pos c3]; exact Ah.of (hm.lt p m hp (by omega) (Nat.le_refl _) (by omega)) (hb.lo p hp (by omega))
        · rw [if_neg c3]
          by_cases c4 : i < q ∧ q ≤ m
          · rw [if_pos c4]; exact hm.l _ _ hp (by omega) (by omega)
          · rw [if_neg c4]; exact hm.l _ _ hp hpq (by omega)
structure BsC (key : Int → Int) (xs : List Int) (a m b lo hi s r : Nat) : Prop where
  los : lo ≤ s
  sr : s ≤ r
  rhi : r ≤ hi
  L : ∀ c, lo ≤ c → c < s → ¬ key (gt xs ((a + b) / 2 + m - 1 - c)) < key (gt xs c)
  R : ∀ c, r ≤ c → c < hi → key (gt xs ((a + b) / 2 + m - 1 - c)) < key (gt xs c)
structure Bd (a m b lo hi : Nat) : Prop where
  alo : a ≤ lo
  lohi : lo ≤ hi
  him : hi ≤ m
  sum : lo + b ≥ (a + b) / 2 + m
  top : hi ≤ (a + b) / 2
  low : lo = a ∨ lo + b = (a + b) / 2 + m
  up : hi = m ∨ hi = (a + b) / 2
theorem Bd.big {a m b : Nat} (h1 : a < m) (h2 : m < b) (h : (a + b) / 2 < m) : Bd a m b ((a + b) / 2 + m - b) ((a + b) / 2) := ⟨by omega, by omega, by omega, by omega, by omega, by omega, .inr rfl⟩
theorem Bd.small {a m b : Nat} (h1 : a < m) (h2 : m < b) (h : m ≤ (a + b) / 2) : Bd a m b a m := ⟨by omega, by omega, by omega, by omega, by omega, .inl rfl, .inl rfl⟩
theorem BsC.start {xs : List Int} {a m b lo hi : Nat} (h : Bd a m b lo hi) : BsC key xs a m b lo hi lo hi := ⟨Nat.le_refl _, h.lohi, Nat.le_refl _, fun c h1 h2 => by omega, fun c h1 h2 => by omega⟩
theorem BsC.yes {xs : List Int} {a m b lo hi s r : Nat} (hm : Mg key xs a m b) (hd : Bd a m b lo hi) (h : BsC key xs a m b lo hi s r) (hsr : s < r) (hc : ¬ key (gt xs ((a + b) / 2 + m - 1 - (s + r) / 2)) < key (gt xs ((s + r) / 2))) : BsC key xs a m b lo hi ((s + r) / 2 + 1) r := by
  have := h.los; have := h.rhi; have := hd.alo; have := hd.him; have := hd.sum; have := hd.top; have := hm.am; have := hm.mb
  refine ⟨by omega, by omega, h.rhi, fun c h1 h2 => ?_, h.R⟩
  have k1 := hm.l.key_le (show a ≤ c by omega) (show c ≤ (s + r) / 2 by omega) (by omega)
  have k2 := hm.r.key_le (show m ≤ (a + b) / 2 + m - 1 - (s + r) / 2 by omega) (show (a + b) / 2 + m - 1 - (s + r) / 2 ≤ (a + b) / 2 + m - 1 - c by omega) (by omega)
  omega
theorem BsC.no {xs : List Int} {a m b lo hi s r : Nat} (hm : Mg key xs a m b) (hd : Bd a m b lo hi) (h : BsC key xs a m b lo hi s r) (hsr : s < r) (hc : key (gt xs ((a + b) / 2 + m - 1 - (s + r) / 2)) < key (gt xs ((s + r) / 2))) : BsC key xs a m b lo hi s ((s + r) / 2) := by
  have := h.los; have := h.rhi; have := hd.alo; have := hd.him; have := hd.sum; have := hd.top; have := hm.am; have := hm.mb
  refine ⟨h.los, by omega, by omega, h.L, fun c h1 h2 => ?_⟩
  have k1 := hm.l.key_le (show a ≤ (s + r) / 2 by omega) h1 (by omega)
  have k2 := hm.r.key_le (show m ≤ (a + b) / 2 + m - 1 - c by omega) (show (a + b) / 2 + m - 1 - c ≤ (a + b) / 2 + m - 1 - (s + r) / 2 by omega) (by omega)
  omega
structure Pt (key : Int → Int) (xs : List Int) (a m b s : Nat) (ys : List Int) : Prop where
  perm : ys.Perm xs
  out : ∀ p, p < a ∨ b ≤ p → gt ys p = gt xs p
  mem : ∀ p, a ≤ p → p < b → ∃ q, a ≤ q ∧ q < b ∧ gt ys p = gt xs q
  sep : ∀ p q, a ≤ p → p < (a + b) / 2 → (a + b) / 2 ≤ q → q < b → Ah key (gt ys p) (gt ys q)
  l1 : SS key a s ys
  l2 : SS key s ((a + b) / 2) ys
  ll : ∀ p q, a ≤ p → p < s → s ≤ q → q < (a + b) / 2 → gt ys p < gt ys q
  r1 : SS key ((a + b) / 2) ((a + b) / 2 + m - s) ys
  r2 : SS key ((a + b) / 2 + m - s) b ys
  rr : ∀ p q, (a + b) / 2 ≤ p → p < (a + b) / 2 + m - s → (a + b) / 2 + m - s ≤ q → q < b → gt ys p < gt ys q
  a_s : a ≤ s
  smid : s ≤ (a + b) / 2
  sm : s ≤ m
  eb : (a + b) / 2 + m - s ≤ b
theorem Pt.of {xs ys : List Int} {a m b lo hi s : Nat} (hm : Mg key xs a m b) (hd : Bd a m b lo hi) (h : BsC key xs a m b lo hi s s) (hp : ys.Perm xs) (hr : ∀ p, gt ys p = if s ≤ p ∧ p < (a + b) / 2 + m - s then (if p < (a + b) / 2 then gt xs (p + (m - s)) else gt xs (p - ((a + b) / 2 - s))) else gt xs p) : Pt key xs a m b s ys := by
  have h1 := h.los; have h2 := h.rhi; have h3 := hd.alo; have h4 := hd.him; have h5 := hd.sum; have h6 := hd.top; have h7 := hm.am; have h8 := hm.mb
  -- the four parts
  have A1 : ∀ p, p < s → gt ys p = gt xs p := fun p hp => by rw [hr, if_neg (by omega)]
  have B1 : ∀ p, s ≤ p → p < (a + b) / 2 → gt ys p = gt xs (p + (m - s)) := fun p hp hq => by rw [hr, if_pos (by omega), if_pos hq]
  have A2 : ∀ p, (a + b) / 2 ≤ p → p < (a + b) / 2 + m - s → gt ys p = gt xs (p - ((a + b) / 2 - s)) := fun p hp hq => by rw [hr, if_pos (by omega), if_neg (by omega)]
  have B2 : ∀ p, (a + b) / 2 + m - s ≤ p → gt ys p = gt xs p := fun p hp => by rw [hr, if_neg (by omega)]
  -- A1 is ahead of B2, B1 of A2
  have hAB : ∀ p q, a ≤ p → p < s → (a + b) / 2 + m - s ≤ q → q < b → Ah key (gt xs p) (gt xs q) := fun p q p1 p2 q1 q2 => by
    have hlo : lo < s ∨ s = lo := by omega
    rcases hlo with hlo | hlo
    · have k := h.L (s - 1) (by omega) (by omega)
      have e : (a + b) / 2 + m - 1 - (s - 1) = (a + b) / 2 + m - s := by omega
      rw [e] at k
      have k1 := hm.l.key_le p1 (show p ≤ s - 1 by omega) (by omega)
      have k2 := hm.r.key_le (show m ≤ (a + b) / 2 + m - s by omega) q1 q2
      exact Ah.of (hm.lt p q p1 (by omega) (by omega) q2) (by omega)
    · rcases hd.low with hl | hl <;> omega
  have hBA : ∀ p q, m ≤ p → p < (a + b) / 2 + m - s → s ≤ q → q < m → Ah key (gt xs p) (gt xs q) := fun p q p1 p2 q1 q2 => by
    have hhi : s < hi ∨ s = hi := by omega
    rcases hhi with hhi | hhi
    · have k := h.R s (by omega) hhi
      have k1 := hm.r.key_le p1 (show p ≤ (a + b) / 2 + m - 1 - s by omega) (by omega)
      have k2 := hm.l.key_le (show a ≤ s by omega) q1 q2
      exact .inl (by omega)
    · rcases hd.up with hl | hl <;> omega
  refine ⟨hp, fun p hq => ?_, fun p p1 p2 => ?_, fun p q p1 p2 q1 q2 => ?_, fun p q p1 pq q2 => ?_, fun p q p1 pq q2 => ?_, fun p q p1 p2 q1 q2 => ?_, fun p q p1 pq q2 => ?_, fun p q p1 pq q2 => ?_, fun p q p1 p2 q1 q2 => ?_, by omega, by omega, by omega, by omega⟩
  · rcases hq with hq | hq
    · exact A1 p (by omega)
    · exact B2 p (by omega)
  · by_cases c1 : p < s
    · exact ⟨p, p1, p2, A1 p c1⟩
    · by_cases c2 : p < (a + b) / 2
      · exact ⟨_, by omega, by omega, B1 p (by omega) c2⟩
      · by_cases c3 : p < (a + b) / 2 + m - s
        · exact ⟨_, by omega, by omega, A2 p (by omega) c3⟩
        · exact ⟨p, p1, p2, B2 p (by omega)⟩
  · by_cases c1 : p < s
    · rw [A1 p c1]
      by_cases c3 : q < (a + b) / 2 + m - s
      · rw [A2 q q1 c3]; exact hm.l _ _ p1 (by omega) (by omega)
      · rw [B2 q (by omega)]; exact hAB p q p1 c1 (by omega) q2
    · rw [B1 p (by omega) p2]
      by_cases c3 : q < (a + b) / 2 + m - s
      · rw [A2 q q1 c3]; exact hBA _ _ (by omega) (by omega) (by omega) (by omega)
      · rw [B2 q (by omega)]; exact hm.r _ _ (by omega) (by omega) q2
  · rw [A1 p (by omega), A1 q q2]; exact hm.l _ _ p1 pq (by omega)
  · rw [B1 p p1 (by omega), B1 q (by omega) q2]; exact hm.r _ _ (by omega) (by omega) (by omega)
  · rw [A1 p p2, B1 q q1 q2]; exact hm.lt _ _ p1 (by omega) (by omega) (by omega)
  · rw [A2 p p1 (by omega), A2 q (by omega) q2]; exact hm.l _ _ (by omega) (by omega) (by omega)
  · rw [B2 p p1, B2 q (by omega)]; exact hm.r _ _ (by omega) pq q2
  · rw [A2 p p1 p2, B2 q q1]; exact hm.lt _ _ (by omega) (by omega) (by omega) q2
theorem Pt.none {xs : List Int} {a m b lo hi s : Nat} (hm : Mg key xs a m b) (hd : Bd a m b lo hi) (h : BsC key xs a m b lo hi s s) (hs : m ≤ s ∨ (a + b) / 2 + m - s ≤ m) : Pt key xs a m b s xs := by
  have h1 := h.los; have h2 := h.rhi; have h3 := hd.alo; have h4 := hd.him; have h5 := hd.sum; have h6 := hd.top
  refine Pt.of hm hd h (List.Perm.refl _) (fun p => ?_)
  by_cases c : s ≤ p ∧ p < (a + b) / 2 + m - s
  · rw [if_pos c]
    by_cases c2 : p < (a + b) / 2
    · rw [if_pos c2]; congr 1; omega
    · rw [if_neg c2]; congr 1; omega
  · rw [if_neg c]
theorem Pt.rot {xs ys : List Int} {a m b lo hi s : Nat} (hm : Mg key xs a m b) (hd : Bd a m b lo hi) (h : BsC key xs a m b lo hi s s) (hr : Rot xs s m ((a + b) / 2 + m - s) ys) : Pt key xs a m b s ys := by
  have h1 := h.los; have h2 := h.rhi; have h3 := hd.alo; have h4 := hd.him; have h5 := hd.sum; have h6 := hd.top
  refine Pt.of hm hd h hr.perm (fun p => ?_)
  rw [hr.at_]
  unfold RotT
  rw [show s + ((a + b) / 2 + m - s - m) = (a + b) / 2 by omega, show (a + b) / 2 + m - s - m = (a + b) / 2 - s by omega]
theorem Pt.mg1 {xs ys : List Int} {a m b s : Nat} (h : Pt key xs a m b s ys) (h1 : a < s) (h2 : s < (a + b) / 2) : Mg key ys a s ((a + b) / 2) := ⟨h1, h2, h.l1, h.l2, h.ll⟩
theorem Pt.sd1 {xs ys : List Int} {a m b s : Nat} (h : Pt key xs a m b s ys) (h1 : ¬ a < s ∨ ¬ s < (a + b) / 2) : Sd key a ((a + b) / 2) ys ys := by
  have e1 := h.a_s; have e2 := h.smid
  refine Sd.triv ?_
  by_cases e : a = s
  · have := h.l2; rwa [← e] at this
  · obtain rfl : s = (a + b) / 2 := by omega
    exact h.l1
theorem Pt.mg2 {xs ys zs : List Int} {a m b s : Nat} (h : Pt key xs a m b s ys) (hz : Sd key a ((a + b) / 2) ys zs) (h1 : (a + b) / 2 < (a + b) / 2 + m - s) (h2 : (a + b) / 2 + m - s < b) : Mg key zs ((a + b) / 2) ((a + b) / 2 + m - s) b :=
  have e : ∀ p, (a + b) / 2 ≤ p → gt zs p = gt ys p := fun p hp => hz.out p (.inr hp)
  ⟨h1, h2, h.r1.congr (fun p h1 _ => e p h1), h.r2.congr (fun p h1 _ => e p (by omega)), fun p q p1 p2 q1 q2 => by rw [e p p1, e q (by omega)]; exact h.rr p q p1 p2 q1 q2⟩
theorem Pt.sd2 {xs ys zs : List Int} {a m b s : Nat} (h : Pt key xs a m b s ys) (hz : Sd key a ((a + b) / 2) ys zs) (h1 : ¬ (a + b) / 2 < (a + b) / 2 + m - s ∨ ¬ (a + b) / 2 + m - s < b) : Sd key ((a + b) / 2) b zs zs := by
  have e1 := h.sm; have e2 := h.eb
  have e : ∀ p, (a + b) / 2 ≤ p → gt zs p = gt ys p := fun p hp => hz.out p (.inr hp)
  refine Sd.triv ?_
  by_cases c : (a + b) / 2 = (a + b) / 2 + m - s
  · have := h.r2; rw [← c] at this
    exact this.congr (fun p h1 _ => e p h1)
  · have c2 : (a + b) / 2 + m - s = b := by omega
    have := h.r1; rw [c2] at this
    exact this.congr (fun p h1 _ => e p h1)
theorem Pt.done {xs ys zs us : List Int} {a m b s : Nat} (hp : Pt key xs a m b s ys) (h1 : Sd key a ((a + b) / 2) ys zs) (h2 : Sd key ((a + b) / 2) b zs us) (hab : a < b) : Sd key a b xs us := by
  have e1 : ∀ p, p < (a + b) / 2 → gt us p = gt zs p := fun p h => h2.out p (.inl h)
  have e2 : ∀ p, (a + b) / 2 ≤ p → gt zs p = gt ys p := fun p h => h1.out p (.inr h)
  have mL : ∀ p, a ≤ p → p < (a + b) / 2 → ∃ q, a ≤ q ∧ q < (a + b) / 2 ∧ gt us p = gt ys q := fun p p1 p2 => by
    rw [e1 p p2]; exact h1.mem p p1 p2
  have mR : ∀ p, (a + b) / 2 ≤ p → p < b → ∃ q, (a + b) / 2 ≤ q ∧ q < b ∧ gt us p = gt ys q := fun p p1 p2 => by
    obtain ⟨q, q1, q2, q3⟩ := h2.mem p p1 p2
    exact ⟨q, q1, q2, by rw [q3, e2 q q1]⟩
  refine ⟨(h2.perm.trans h1.perm).trans hp.perm, fun p hq => ?_, fun p p1 p2 => ?_, fun p q p1 pq q2 => ?_⟩
  · rw [h2.out p (by omega), h1.out p (by omega)]; exact hp.out p hq
  · by_cases c : p < (a + b) / 2
    · obtain ⟨q, q1, q2, q3⟩ := mL p p1 c
      obtain ⟨q', r1, r2, r3⟩ := hp.mem q q1 (by omega)
      exact ⟨q', r1, r2, by rw [q3, r3]⟩
    · obtain ⟨q, q1, q2, q3⟩ := mR p (by omega) p2
      obtain ⟨q', r1, r2, r3⟩ := hp.mem q (by omega) q2
      exact ⟨q', r1, r2, by rw [q3, r3]⟩
  · by_cases c : q < (a + b) / 2
    · rw [e1 p (by omega), e1 q c]; exact h1.ss p q p1 pq c
    · by_cases c2 : p < (a + b) / 2
      · obtain ⟨p', x1, x2, x3⟩ := mL p p1 c2
        obtain ⟨q', y1, y2, y3⟩ := mR q (by omega) q2
        rw [x3, y3]
        exact hp.sep p' q' x1 x2 y1 y2
      · exact h2.ss p q (by omega) pq q2
end
end Go.Eng
namespace Go.Eng
set_option linter.unusedVariables false
set_option linter.unusedSimpArgs false
structure Hv (key : Int → Int) (n : Nat) (xs ys : List Int) (e : Nat) : Prop where
  perm : ys.Perm xs
  out : ∀ p, e ≤ p → gt ys p = gt xs p
  s1 : SS key 0 (min e 20) ys
  s2 : SS key 20 e ys
  m1 : ∀ p, p < 20 → p < n → ∃ q, q < 20 ∧ q < n ∧ gt ys p = gt xs q
  m2 : ∀ p, 20 ≤ p → p < n → ∃ q, 20 ≤ q ∧ q < n ∧ gt ys p = gt xs q
theorem Hv.start (key : Int → Int) (n : Nat) (xs : List Int) : Hv key n xs xs 0 := ⟨List.Perm.refl _, fun _ _ => rfl, SS.small (by omega), SS.small (by omega), fun p h1 h2 => ⟨p, h1, h2, rfl⟩, fun p h1 h2 => ⟨p, h1, h2, rfl⟩⟩
theorem Hv.step {key : Int → Int} {n : Nat} {xs ys zs : List Int} {c b : Nat} (h : Hv key n xs ys (20 * c)) (hb : 20 * c ≤ b) (hb2 : b ≤ 20 * c + 20) (hn : b ≤ n) (hn2 : n ≤ 40) (hs : Sd key (20 * c) b ys zs) : Hv key n xs zs b := by
  have hc : c = 0 ∨ c = 1 ∨ c = 2 := by omega
  refine ⟨hs.perm.trans h.perm, fun p hp => ?_, ?_, ?_, fun p h1 h2 => ?_, fun p h1 h2 => ?_⟩
  · rw [hs.out p (.inr hp)]; exact h.out p (by omega)
  · rcases hc with rfl | rfl | rfl
    · intro p q h1 h2 h3; exact hs.ss p q (by omega) h2 (by omega)
    · exact (h.s1.congr (fun p h1 h2 => hs.out p (.inl (by omega)))) |> (fun k => by intro p q h1 h2 h3; exact k p q h1 h2 (by omega))
    · exact (h.s1.congr (fun p h1 h2 => hs.out p (.inl (by omega)))) |> (fun k => by intro p q h1 h2 h3; exact k p q h1 h2 (by omega))
  · rcases hc with rfl | rfl | rfl
    · exact SS.small (by omega)
    · intro p q h1 h2 h3; exact hs.ss p q (by omega) h2 h3
    · exact (h.s2.congr (fun p h1 h2 => hs.out p (.inl (by omega)))) |> (fun k => by intro p q h1 h2 h3; exact k p q h1 h2 (by omega))
  · by_cases k : 20 * c ≤ p ∧ p < b
    · obtain ⟨q, q1, q2, q3⟩ := hs.mem p k.1 k.2
      obtain ⟨q', r1, r2, r3⟩ := h.m1 q (by omega) (by omega)
      exact ⟨q', r1, r2, by rw [q3, r3]⟩
    · rw [hs.out p (by omega)]; exact h.m1 p h1 h2
  · by_cases k : 20 * c ≤ p ∧ p < b
    · obtain ⟨q, q1, q2, q3⟩ := hs.mem p k.1 k.2
      obtain ⟨q', r1, r2, r3⟩ := h.m2 q (by omega) (by omega)
      exact ⟨q', r1, r2, by rw [q3, r3]⟩
    · rw [hs.out p (by omega)]; exact h.m2 p h1 h2
theorem Hv.mg {key : Int → Int} {n : Nat} {xs ys : List Int} (h : Hv key n xs ys n) (hn : 20 < n) (hinc : ∀ p q, p < q → q < n → gt xs p < gt xs q) : Mg key ys 0 20 n := by
  refine ⟨by omega, hn, ?_, h.s2, fun p q _ p2 q1 q2 => ?_⟩
  · intro p q h1 h2 h3; exact h.s1 p q h1 h2 (by omega)
  · obtain ⟨p', x1, x2, x3⟩ := h.m1 p p2 (by omega)
    obtain ⟨q', y1, y2, y3⟩ := h.m2 q q1 q2
    rw [x3, y3]
    exact hinc p' q' (by omega) y2
theorem Hv.few {key : Int → Int} {n : Nat} {xs ys : List Int} (h : Hv key n xs ys n) (hn : n ≤ 20) : SS key 0 n ys := by
  intro p q h1 h2 h3; exact h.s1 p q h1 h2 (by omega)
theorem Hv.inc {key : Int → Int} {n : Nat} {xs ys : List Int} {e : Nat} (h : Hv key n xs ys e) (hinc : ∀ p q, p < q → q < n → gt xs p < gt xs q) : ∀ p q, e ≤ p → p < q → q < n → gt ys p < gt ys q := fun p q h1 h2 h3 => by
  rw [h.out p h1, h.out q (by omega)]; exact hinc p q h2 h3
end Go.Eng
namespace Go.Eng
open Go.Proofs Go.RowKit Go.Proofs.YtiihjijmmephlaaW.PrintWords
set_option linter.unusedVariables false
set_option linter.unusedSimpArgs false
set_option maxRecDepth 100000 in
set_option maxHeartbeats 4000000 in
theorem swr_con (g n cap : Nat) (xs : List Int) (rest : List Value) (cv : Value) (a b k : Nat) (hn : xs.length = n) (hN : n ≤ 1000000) (h1 : a + k ≤ b) (h2 : b + k ≤ n) (w0 : World) (H : List Nat) : Con Try.prog 72 #[.slice (some ⟨g, 0, none⟩) n cap, .int .i64 ((a : Nat) : Int), .int .i64 ((b : Nat) : Int), .int .i64 ((k : Nat) : Int), cv] w0 H [.b g (.cells (RowI .i64 xs rest) 3 (0, 0))] (fun X => X (.tuple #[]) [.b g (.cells (RowI .i64 (swr xs a b k) rest) 3 (0, 0))]) := by
 refine con_enter (c := bodyOf Try.f72) Try.func72 rfl (m := 38) rfl rfl rfl ?_
 intro X hX _
 refine c_seq rfl ?_
 refine r_ord (l := [0]) rfl (by kernel_rfl) (by kernel_rfl) ?_
 refine s_v rfl rfl rfl rfl (v_as rfl rfl) ?_
 refine s_end ?_
 refine q_seq ?_
 refine c_block rfl ?_
 refine c_loop (σ := Nat) (fun i => i ≤ k) (fun i => k - i) (fun i => [(0, .slice (some ⟨g, 0, none⟩) n cap), (1, .int .i64 (a : Int)), (2, .int .i64 (b : Int)), (3, .int .i64 (k : Int)), (10, .int .i64 (i : Int))]) (fun i => [.b g (.cells (RowI .i64 (swr xs a b i) rest) 3 (0, 0))]) 0 [0] rfl (Nat.zero_le _) (subF_spec ⟨rfl, rfl, rfl, rfl, rfl, trivial⟩) rfl (by decide) ?_
 rintro i hs
 refine c_seq rfl ?_
 refine c_seq rfl ?_
 refine r_ord (l := [0, 1, 2]) rfl (by kernel_rfl) (by kernel_rfl) ?_
 refine s_v rfl rfl rfl rfl (v_mv rfl rfl) ?_
 refine s_v rfl rfl rfl rfl (v_mv rfl rfl) ?_
 refine s_v rfl rfl rfl rfl (v_ar rfl rfl rfl rfl) ?_
 refine s_end ?_
 refine q_seq ?_
 refine c_cond (t := decide (((i : Int) : Int) < (k : Int))) rfl rfl (fun h1_ => ?_) (fun h1_ => ?_)
 have h1_d := of_decide_eq_true h1_
 refine c_skip rfl ?_
 refine q_seq ?_
 refine c_seq rfl ?_
 refine c_block rfl ?_
 refine r_any [] (by kernel_rfl) rfl (by kernel_rfl) (mem_pick (idx := []) rfl) ?_
 refine a_v 0 rfl (by kernel_rfl) (by kernel_rfl) (by kernel_rfl) rfl rfl rfl (v_mv rfl rfl) ?_
 refine a_v 1 rfl (by kernel_rfl) (by kernel_rfl) (by kernel_rfl) rfl rfl rfl (v_mv rfl rfl) ?_
 refine a_v 2 rfl (by kernel_rfl) (by kernel_rfl) (by kernel_rfl) rfl rfl rfl (v_mv rfl rfl) ?_
 refine a_v 3 rfl (by kernel_rfl) (by kernel_rfl) (by kernel_rfl) rfl rfl rfl (OpV.cast (v := .int .i64 ((a + i : Nat) : Int)) (v_ar rfl rfl rfl rfl) (addN (a := a) (b := i) (by first | omega | (simp [swr_len, swp_len] <;> omega)))) ?_
 refine a_v 4 rfl (by kernel_rfl) (by kernel_rfl) (by kernel_rfl) rfl rfl rfl (v_mv rfl rfl) ?_
 refine a_v 5 rfl (by kernel_rfl) (by kernel_rfl) (by kernel_rfl) rfl rfl rfl (v_mv rfl rfl) ?_
 refine a_v 6 rfl (by kernel_rfl) (by kernel_rfl) (by kernel_rfl) rfl rfl rfl (v_mv rfl rfl) ?_
 refine a_v 7 rfl (by kernel_rfl) (by kernel_rfl) (by kernel_rfl) rfl rfl rfl (OpV.cast (v := .int .i64 ((b + i : Nat) : Int)) (v_ar rfl rfl rfl rfl) (addN (a := b) (b := i) (by first | omega | (simp [swr_len, swp_len] <;> omega)))) ?_
 refine a_v 8 rfl (by kernel_rfl) (by kernel_rfl) (by kernel_rfl) rfl rfl rfl (v_mv rfl rfl) ?_
 refine a_v 9 rfl (by kernel_rfl) (by kernel_rfl) (by kernel_rfl) rfl rfl rfl (v_mv rfl rfl) ?_
 refine a_v 10 rfl (by kernel_rfl) (by kernel_rfl) (by kernel_rfl) rfl rfl rfl (v_mv rfl rfl) ?_
 refine a_v 11 rfl (by kernel_rfl) (by kernel_rfl) (by kernel_rfl) rfl rfl rfl (OpV.cast (v := .int .i64 ((b + i : Nat) : Int)) (v_ar rfl rfl rfl rfl) (addN (a := b) (b := i) (by first | omega | (simp [swr_len, swp_len] <;> omega)))) ?_
 refine a_v 12 rfl (by kernel_rfl) (by kernel_rfl) (by kernel_rfl) rfl rfl rfl (v_iaO (j := b + i) rfl Try.underlying25 SZ3 rfl rfl (by first | omega | (simp [swr_len, swp_len] <;> omega))) ?_
 refine a_v 14 rfl (by kernel_rfl) (by kernel_rfl) (by kernel_rfl) rfl rfl rfl (v_mv rfl rfl) ?_
 refine a_v 15 rfl (by kernel_rfl) (by kernel_rfl) (by kernel_rfl) rfl rfl rfl (v_mv rfl rfl) ?_
 refine a_v 16 rfl (by kernel_rfl) (by kernel_rfl) (by kernel_rfl) rfl rfl rfl (v_mv rfl rfl) ?_
 refine a_v 17 rfl (by kernel_rfl) (by kernel_rfl) (by kernel_rfl) rfl rfl rfl (OpV.cast (v := .int .i64 ((a + i : Nat) : Int)) (v_ar rfl rfl rfl rfl) (addN (a := a) (b := i) (by first | omega | (simp [swr_len, swp_len] <;> omega)))) ?_
 refine a_v 18 rfl (by kernel_rfl) (by kernel_rfl) (by kernel_rfl) rfl rfl rfl (v_iaO (j := a + i) rfl Try.underlying25 SZ3 rfl rfl (by first | omega | (simp [swr_len, swp_len] <;> omega))) ?_
 refine a_2 (i := 13) (j := 19) (by kernel_rfl) ?_ ?_
 refine i_v rfl rfl rfl rfl (v_ldO (v := gt (swr xs a b i) (b + i)) 0 rfl Try.underlying3 rfl rfl rfl (by first | omega | (simp [swr_len, swp_len] <;> omega)) (gt_eq (by first | omega | (simp [swr_len, swp_len] <;> omega))).symm) ?_
 refine a_1 (i := 19) (by kernel_rfl) ?_
 refine i_v rfl rfl rfl rfl (v_ldO (v := gt (swr xs a b i) (a + i)) 0 rfl Try.underlying3 rfl rfl rfl (by first | omega | (simp [swr_len, swp_len] <;> omega)) (gt_eq (by first | omega | (simp [swr_len, swp_len] <;> omega))).symm) ?_
 refine a_v 20 rfl (by kernel_rfl) (by kernel_rfl) (by kernel_rfl) rfl rfl rfl (v_iaO (j := a + i) rfl Try.underlying25 SZ3 rfl rfl (by first | omega | (simp [swr_len, swp_len] <;> omega))) ?_
 refine a_1 (i := 21) (by kernel_rfl) ?_
 refine i_e rfl rfl (e_stO 0 rfl rfl SZ3 rfl rfl rfl (by first | omega | (simp [swr_len, swp_len] <;> omega))) ?_
 refine ⟨(mem_pick (idx := []) rfl), ?_⟩
 refine a_v 22 rfl (by kernel_rfl) (by kernel_rfl) (by kernel_rfl) rfl rfl rfl (v_iaO (j := b + i) rfl Try.underlying25 SZ3 rfl rfl (by first | omega | (simp [swr_len, swp_len] <;> omega))) ?_
 refine a_1 (i := 23) (by kernel_rfl) ?_
 refine i_e rfl rfl (e_stO 0 rfl rfl SZ3 rfl rfl rfl (by first | omega | (simp [swr_len, swp_len] <;> omega))) ?_
 refine ⟨(mem_pick (idx := []) rfl), ?_⟩
 refine a_end (by kernel_rfl) ?_
 refine q_block ?_
 refine q_seq ?_
 refine r_ord (l := [0, 1, 2]) rfl (by kernel_rfl) (by kernel_rfl) ?_
 refine s_v rfl rfl rfl rfl (v_mv rfl rfl) ?_
 refine s_v rfl rfl rfl rfl (OpV.cast (v := .int .i64 ((i + 1 : Nat) : Int)) (v_ar rfl rfl rfl rfl) (addN (a := i) (b := 1) (by first | omega | (simp [swr_len, swp_len] <;> omega)))) ?_
 refine s_v rfl rfl rfl rfl (v_as rfl rfl) ?_
 refine s_end ?_
 exact q_again (i + 1) [0] (by show i + 1 ≤ k; omega) (by show k - (i + 1) < k - i; omega) (subF_spec ⟨rfl, rfl, rfl, rfl, rfl, trivial⟩) rfl (by decide)
 refine i_v rfl rfl rfl rfl (v_ldO (v := gt (swr xs a b i) (a + i)) 0 rfl Try.underlying3 rfl rfl rfl (by first | omega | (simp [swr_len, swp_len] <;> omega)) (gt_eq (by first | omega | (simp [swr_len, swp_len] <;> omega))).symm) ?_
 refine a_1 (i := 13) (by kernel_rfl) ?_
 refine i_v rfl rfl rfl rfl (v_ldO (v := gt (swr xs a b i) (b + i)) 0 rfl Try.underlying3 rfl rfl rfl (by first | omega | (simp [swr_len, swp_len] <;> omega)) (gt_eq (by first | omega | (simp [swr_len, swp_len] <;> omega))).symm) ?_
 refine a_v 20 rfl (by kernel_rfl) (by kernel_rfl) (by kernel_rfl) rfl rfl rfl (v_iaO (j := a + i) rfl Try.underlying25 SZ3 rfl rfl (by first | omega | (simp [swr_len, swp_len] <;> omega))) ?_
 refine a_1 (i := 21) (by kernel_rfl) ?_
 refine i_e rfl rfl (e_stO 0 rfl rfl SZ3 rfl rfl rfl (by first | omega | (simp [swr_len, swp_len] <;> omega))) ?_
 refine ⟨(mem_pick (idx := []) rfl), ?_⟩
 refine a_v 22 rfl (by kernel_rfl) (by kernel_rfl) (by kernel_rfl) rfl rfl rfl (v_iaO (j := b + i) rfl Try.underlying25 SZ3 rfl rfl (by first | omega | (simp [swr_len, swp_len] <;> omega))) ?_
 refine a_1 (i := 23) (by kernel_rfl) ?_
 refine i_e rfl rfl (e_stO 0 rfl rfl SZ3 rfl rfl rfl (by first | omega | (simp [swr_len, swp_len] <;> omega))) ?_
 refine ⟨(mem_pick (idx := []) rfl), ?_⟩
 refine a_end (by kernel_rfl) ?_
 refine q_block ?_
 refine q_seq ?_
 refine r_ord (l := [0, 1, 2]) rfl (by kernel_rfl) (by kernel_rfl) ?_
 refine s_v rfl rfl rfl rfl (v_mv rfl rfl) ?_
 refine s_v rfl rfl rfl rfl (OpV.cast (v := .int .i64 ((i + 1 : Nat) : Int)) (v_ar rfl rfl rfl rfl) (addN (a := i) (b := 1) (by first | omega | (simp [swr_len, swp_len] <;> omega)))) ?_
 refine s_v rfl rfl rfl rfl (v_as rfl rfl) ?_
 refine s_end ?_
 exact q_again (i + 1) [0] (by show i + 1 ≤ k; omega) (by show k - (i + 1) < k - i; omega) (subF_spec ⟨rfl, rfl, rfl, rfl, rfl, trivial⟩) rfl (by decide)
 have h1_d := of_decide_eq_false h1_
 refine c_exit (i := 0) rfl rfl ?_
 refine q_then_exit ?_
 refine q_then_exit ?_
 refine q_block_here rfl ?_
 obtain rfl : i = k := by omega
 exact q_post_n rfl .nil (hX)
set_option maxRecDepth 100000 in
set_option maxHeartbeats 4000000 in
theorem rot_con (g n cap : Nat) (xs : List Int) (rest : List Value) (cv : Value) (a m b : Nat) (hn : xs.length = n) (hN : n ≤ 1000000) (h1 : a < m) (h2 : m < b) (h3 : b ≤ n) (w0 : World) (H : List Nat) : Con Try.prog 70 #[.slice (some ⟨g, 0, none⟩) n cap, .int .i64 ((a : Nat) : Int), .int .i64 ((m : Nat) : Int), .int .i64 ((b : Nat) : Int), cv] w0 H [.b g (.cells (RowI .i64 xs rest) 3 (0, 0))] (fun X => ∀ ys, Rot xs a m b ys → X (.tuple #[]) [.b g (.cells (RowI .i64 ys rest) 3 (0, 0))]) := by
 refine con_enter (c := bodyOf Try.f70) Try.func70 rfl (m := 58) rfl rfl rfl ?_
 intro X hX _
 have hb : b ≤ xs.length := by omega
 refine c_seq rfl ?_
 refine r_ord (l := [0, 1, 2, 3]) rfl (by kernel_rfl) (by kernel_rfl) ?_
 refine s_v rfl rfl rfl rfl (v_mv rfl rfl) ?_
 refine s_v rfl rfl rfl rfl (v_mv rfl rfl) ?_
 refine s_v rfl rfl rfl rfl (OpV.cast (v := .int .i64 ((m - a : Nat) : Int)) (v_ar rfl rfl rfl rfl) (subN (a := m) (b := a) (by first | omega | (simp [swr_len, swp_len] <;> omega)) (by first | omega | (simp [swr_len, swp_len] <;> omega)))) ?_
 refine s_v rfl rfl rfl rfl (v_as rfl rfl) ?_
 refine s_end ?_
 refine q_seq ?_
 refine c_seq rfl ?_
 refine r_ord (l := [0, 1, 2, 3]) rfl (by kernel_rfl) (by kernel_rfl) ?_
 refine s_v rfl rfl rfl rfl (v_mv rfl rfl) ?_
 refine s_v rfl rfl rfl rfl (v_mv rfl rfl) ?_
 refine s_v rfl rfl rfl rfl (OpV.cast (v := .int .i64 ((b - m : Nat) : Int)) (v_ar rfl rfl rfl rfl) (subN (a := b) (b := m) (by first | omega | (simp [swr_len, swp_len] <;> omega)) (by first | omega | (simp [swr_len, swp_len] <;> omega)))) ?_
 refine s_v rfl rfl rfl rfl (v_as rfl rfl) ?_
 refine s_end ?_
 refine q_seq ?_
 refine c_seq rfl ?_
 refine c_block rfl ?_
 refine c_loop (σ := (Nat × Nat × List Int)) (fun s : (Nat × Nat × List Int) => match s with | (i, j, ys) => RotI xs a m b i j ys) (fun s : (Nat × Nat × List Int) => match s with | (i, j, ys) => i + j) (fun s : (Nat × Nat × List Int) => match s with | (i, j, ys) => [(0, .slice (some ⟨g, 0, none⟩) n cap), (1, .int .i64 (a : Int)), (2, .int .i64 (m : Int)), (3, .int .i64 (b : Int)), (4, cv), (10, .int .i64 (i : Int)), (11, .int .i64 (j : Int))]) (fun s : (Nat × Nat × List Int) => match s with | (i, j, ys) => [.b g (.cells (RowI .i64 ys rest) 3 (0, 0))]) (m - a, b - m, xs) [0] rfl (RotI.start h1 h2 hb) (subF_spec ⟨rfl, rfl, rfl, rfl, rfl, rfl, rfl, trivial⟩) rfl (by decide) ?_
 rintro ⟨i, j, ys⟩ hs
 have hs : RotI xs a m b i j ys := hs
 have hn0 := hn
 have hn : ys.length = n := hs.len.trans hn
 have h_lo := hs.lo
 have h_hi := hs.hi
 have h_i := hs.i0
 have h_j := hs.j0
 refine c_seq rfl ?_
 refine c_seq rfl ?_
 refine r_ord (l := [0, 1, 2]) rfl (by kernel_rfl) (by kernel_rfl) ?_
 refine s_v rfl rfl rfl rfl (v_mv rfl rfl) ?_
 refine s_v rfl rfl rfl rfl (v_mv rfl rfl) ?_
 refine s_v rfl rfl rfl rfl (v_ar rfl rfl rfl rfl) ?_
 refine s_end ?_
 refine q_seq ?_
 refine c_cond (t := ((i : Int) : Int) != (j : Int)) rfl rfl (fun h1_ => ?_) (fun h1_ => ?_)
 have h1_d : ((i : Nat) : Int) ≠ ((j : Nat) : Int) := by simpa using h1_
 refine c_skip rfl ?_
 refine q_seq ?_
 refine c_block rfl ?_
 refine c_seq rfl ?_
 refine r_ord (l := [0, 1, 2]) rfl (by kernel_rfl) (by kernel_rfl) ?_
 refine s_v rfl rfl rfl rfl (v_mv rfl rfl) ?_
 refine s_v rfl rfl rfl rfl (v_mv rfl rfl) ?_
 refine s_v rfl rfl rfl rfl (v_ar rfl rfl rfl rfl) ?_
 refine s_end ?_
 refine q_seq ?_
 refine c_cond (t := decide (((i : Int) : Int) > (j : Int))) rfl rfl (fun h2_ => ?_) (fun h2_ => ?_)
 have h2_d := of_decide_eq_true h2_
 refine c_seq rfl ?_
 refine r_ord (l := [0, 1, 2, 3, 4, 5, 6, 7]) rfl (by kernel_rfl) (by kernel_rfl) ?_
 refine s_v rfl rfl rfl rfl (v_mv rfl rfl) ?_
 refine s_v rfl rfl rfl rfl (v_mv rfl rfl) ?_
 refine s_v rfl rfl rfl rfl (v_mv rfl rfl) ?_
 refine s_v rfl rfl rfl rfl (OpV.cast (v := .int .i64 ((m - i : Nat) : Int)) (v_ar rfl rfl rfl rfl) (subN (a := m) (b := i) (by first | omega | (simp [swr_len, swp_len] <;> omega)) (by first | omega | (simp [swr_len, swp_len] <;> omega)))) ?_
 refine s_v rfl rfl rfl rfl (v_mv rfl rfl) ?_
 refine s_v rfl rfl rfl rfl (v_mv rfl rfl) ?_
 refine s_v rfl rfl rfl rfl (v_mv rfl rfl) ?_
 refine s_e rfl rfl (e_call [0] [] #[.slice (some ⟨g, 0, none⟩) n cap, .int .i64 ((m - i : Nat) : Int), .int .i64 (m : Int), .int .i64 (j : Int), cv] rfl rfl rfl rfl rfl Try.func72 rfl (by decide) rfl rfl rfl rfl (by decide) (fun w ht => swr_con g n cap ys rest cv (m - i) m j (by first | exact hn | (simp only [List.length_set, swr_len, swp_len]; omega) | omega) hN (by first | omega | (simp [swr_len, swp_len] <;> omega)) (by first | omega | (simp [swr_len, swp_len] <;> omega)) w _)) ?_
 refine s_end ?_
 refine q_seq ?_
 refine r_ord (l := [0, 1, 2, 3]) rfl (by kernel_rfl) (by kernel_rfl) ?_
 refine s_v rfl rfl rfl rfl (v_mv rfl rfl) ?_
 refine s_v rfl rfl rfl rfl (v_mv rfl rfl) ?_
 refine s_v rfl rfl rfl rfl (OpV.cast (v := .int .i64 ((i - j : Nat) : Int)) (v_ar rfl rfl rfl rfl) (subN (a := i) (b := j) (by first | omega | (simp [swr_len, swp_len] <;> omega)) (by first | omega | (simp [swr_len, swp_len] <;> omega)))) ?_
 refine s_v rfl rfl rfl rfl (v_as rfl rfl) ?_
 refine s_end ?_
 refine q_block ?_
 exact q_again (i - j, j, swr ys (m - i) m j) [0] (hs.left hb (by omega)) (by show _ + _ < i + j; omega) (subF_spec ⟨rfl, rfl, rfl, rfl, rfl, rfl, rfl, trivial⟩) rfl (by decide)
 have h2_d := of_decide_eq_false h2_
 refine c_seq rfl ?_
 refine r_ord (l := [0, 1, 2, 3, 4, 5, 6, 7, 8, 9, 10, 11]) rfl (by kernel_rfl) (by kernel_rfl) ?_
 refine s_v rfl rfl rfl rfl (v_mv rfl rfl) ?_
 refine s_v rfl rfl rfl rfl (v_mv rfl rfl) ?_
 refine s_v rfl rfl rfl rfl (v_mv rfl rfl) ?_
 refine s_v rfl rfl rfl rfl (OpV.cast (v := .int .i64 ((m - i : Nat) : Int)) (v_ar rfl rfl rfl rfl) (subN (a := m) (b := i) (by first | omega | (simp [swr_len, swp_len] <;> omega)) (by first | omega | (simp [swr_len, swp_len] <;> omega)))) ?_
 refine s_v rfl rfl rfl rfl (v_mv rfl rfl) ?_
 refine s_v rfl rfl rfl rfl (v_mv rfl rfl) ?_
 refine s_v rfl rfl rfl rfl (OpV.cast (v := .int .i64 ((m + j : Nat) : Int)) (v_ar rfl rfl rfl rfl) (addN (a := m) (b := j) (by first | omega | (simp [swr_len, swp_len] <;> omega)))) ?_
 refine s_v rfl rfl rfl rfl (v_mv rfl rfl) ?_
 refine s_v rfl rfl rfl rfl (OpV.cast (v := .int .i64 (((m + j) - i : Nat) : Int)) (v_ar rfl rfl rfl rfl) (subN (a := m + j) (b := i) (by first | omega | (simp [swr_len, swp_len] <;> omega)) (by first | omega | (simp [swr_len, swp_len] <;> omega)))) ?_
 refine s_v rfl rfl rfl rfl (v_mv rfl rfl) ?_
 refine s_v rfl rfl rfl rfl (v_mv rfl rfl) ?_
 refine s_e rfl rfl (e_call [0] [] #[.slice (some ⟨g, 0, none⟩) n cap, .int .i64 ((m - i : Nat) : Int), .int .i64 (((m + j) - i : Nat) : Int), .int .i64 (i : Int), cv] rfl rfl rfl rfl rfl Try.func72 rfl (by decide) rfl rfl rfl rfl (by decide) (fun w ht => swr_con g n cap ys rest cv (m - i) ((m + j) - i) i (by first | exact hn | (simp only [List.length_set, swr_len, swp_len]; omega) | omega) hN (by first | omega | (simp [swr_len, swp_len] <;> omega)) (by first | omega | (simp [swr_len, swp_len] <;> omega)) w _)) ?_
 refine s_end ?_
 refine q_seq ?_
 refine r_ord (l := [0, 1, 2, 3]) rfl (by kernel_rfl) (by kernel_rfl) ?_
 refine s_v rfl rfl rfl rfl (v_mv rfl rfl) ?_
 refine s_v rfl rfl rfl rfl (v_mv rfl rfl) ?_
 refine s_v rfl rfl rfl rfl (OpV.cast (v := .int .i64 ((j - i : Nat) : Int)) (v_ar rfl rfl rfl rfl) (subN (a := j) (b := i) (by first | omega | (simp [swr_len, swp_len] <;> omega)) (by first | omega | (simp [swr_len, swp_len] <;> omega)))) ?_
 refine s_v rfl rfl rfl rfl (v_as rfl rfl) ?_
 refine s_end ?_
 refine q_block ?_
 exact q_again (i, j - i, swr ys (m - i) (m + j - i) i) [0] (hs.right hb (by omega)) (by show _ + _ < i + j; omega) (subF_spec ⟨rfl, rfl, rfl, rfl, rfl, rfl, rfl, trivial⟩) rfl (by decide)
 have h1_d : ((i : Nat) : Int) = ((j : Nat) : Int) := by simpa using h1_
 refine c_exit (i := 0) rfl rfl ?_
 refine q_then_exit ?_
 refine q_then_exit ?_
 refine q_block_here rfl ?_
 refine q_seq ?_
 refine r_ord (l := [0, 1, 2, 3, 4, 5, 6, 7]) rfl (by kernel_rfl) (by kernel_rfl) ?_
 refine s_v rfl rfl rfl rfl (v_mv rfl rfl) ?_
 refine s_v rfl rfl rfl rfl (v_mv rfl rfl) ?_
 refine s_v rfl rfl rfl rfl (v_mv rfl rfl) ?_
 refine s_v rfl rfl rfl rfl (OpV.cast (v := .int .i64 ((m - i : Nat) : Int)) (v_ar rfl rfl rfl rfl) (subN (a := m) (b := i) (by first | omega | (simp [swr_len, swp_len] <;> omega)) (by first | omega | (simp [swr_len, swp_len] <;> omega)))) ?_
 refine s_v rfl rfl rfl rfl (v_mv rfl rfl) ?_
 refine s_v rfl rfl rfl rfl (v_mv rfl rfl) ?_
 refine s_v rfl rfl rfl rfl (v_mv rfl rfl) ?_
 refine s_e rfl rfl (e_call [0] [] #[.slice (some ⟨g, 0, none⟩) n cap, .int .i64 ((m - i : Nat) : Int), .int .i64 (m : Int), .int .i64 (i : Int), cv] rfl rfl rfl rfl rfl Try.func72 rfl (by decide) rfl rfl rfl rfl (by decide) (fun w ht => swr_con g n cap ys rest cv (m - i) m i (by first | exact hn | (simp only [List.length_set, swr_len, swp_len]; omega) | omega) hN (by first | omega | (simp [swr_len, swp_len] <;> omega)) (by first | omega | (simp [swr_len, swp_len] <;> omega)) w _)) ?_
 refine s_end ?_
 exact q_post_n rfl .nil (hX _ (hs.last hb (by omega)))
set_option maxRecDepth 100000 in
set_option maxHeartbeats 4000000 in
theorem ins_con (g n cap : Nat) (xs : List Int) (rest : List Value) (bl nl : Nat) (key : Int → Int) (Φ : World → Prop) (hcmp : ∀ (x y : Int) (w : World) (H : List Nat), 0 ≤ x → x < nl → 0 ≤ y → y < nl → Con Try.prog 27 #[.int .i64 x, .int .i64 y, .pointer (some ⟨bl, 0, none⟩)] w H [.f Φ] (fun X => X (.int .i64 (cmp3 (key x) (key y))) [])) (hD : ∀ x ∈ xs, 0 ≤ x ∧ x < (nl : Int)) (a b : Nat) (hn : xs.length = n) (hN : n ≤ 1000000) (hab : a ≤ b) (h3 : b ≤ n) (hinc : ∀ p q, a ≤ p → p < q → q < b → gt xs p < gt xs q) (w0 : World) (H : List Nat) : Con Try.prog 66 #[.slice (some ⟨g, 0, none⟩) n cap, .int .i64 ((a : Nat) : Int), .int .i64 ((b : Nat) : Int), (.func (.func 27) #[] #[.pointer (some ⟨bl, 0, none⟩)])] w0 H [.b g (.cells (RowI .i64 xs rest) 3 (0, 0)), .f Φ] (fun X => ∀ ys, Sd key a b xs ys → X (.tuple #[]) [.b g (.cells (RowI .i64 ys rest) 3 (0, 0))]) := by
 refine con_enter (c := bodyOf Try.f66) Try.func66 rfl (m := 53) rfl rfl rfl ?_
 intro X hX _
 have hDg : ∀ (ys : List Int), ys.Perm xs → ∀ p, p < ys.length → 0 ≤ gt ys p ∧ gt ys p < (nl : Int) := fun ys hp p hl => by rw [gt_eq hl]; exact hD _ (hp.mem_iff.1 (List.getElem_mem hl))
 refine c_seq rfl ?_
 refine r_ord (l := [0, 1, 2]) rfl (by kernel_rfl) (by kernel_rfl) ?_
 refine s_v rfl rfl rfl rfl (v_mv rfl rfl) ?_
 refine s_v rfl rfl rfl rfl (OpV.cast (v := .int .i64 ((a + 1 : Nat) : Int)) (v_ar rfl rfl rfl rfl) (addN (a := a) (b := 1) (by first | omega | (simp [swr_len, swp_len] <;> omega)))) ?_
 refine s_v rfl rfl rfl rfl (v_as rfl rfl) ?_
 refine s_end ?_
 refine q_seq ?_
 refine c_block rfl ?_
 refine c_loop (σ := (Nat × List Int)) (fun s : (Nat × List Int) => match s with | (i, ys) => InO key xs a b i ys ∧ (i ≤ b ∨ i = a + 1) ∧ a < i) (fun s : (Nat × List Int) => match s with | (i, ys) => b + 1 - i) (fun s : (Nat × List Int) => match s with | (i, ys) => [(0, .slice (some ⟨g, 0, none⟩) n cap), (1, .int .i64 (a : Int)), (2, .int .i64 (b : Int)), (3, .func (.func 27) #[] #[.pointer (some ⟨bl, 0, none⟩)]), (8, .int .i64 (i : Int))]) (fun s : (Nat × List Int) => match s with | (i, ys) => [.b g (.cells (RowI .i64 ys rest) 3 (0, 0)), .f (Φ)]) (a + 1, xs) [0, 1] rfl ⟨InO.start xs a b, .inr rfl, by omega⟩ (subF_spec ⟨rfl, rfl, rfl, rfl, rfl, trivial⟩) rfl (by decide) ?_
 rintro ⟨i, ys⟩ hs
 have ho := hs
 have hly : ys.length = n := ho.1.len.trans hn
 have hai := ho.2.2
 refine c_seq rfl ?_
 refine c_seq rfl ?_
 refine r_ord (l := [0, 1, 2]) rfl (by kernel_rfl) (by kernel_rfl) ?_
 refine s_v rfl rfl rfl rfl (v_mv rfl rfl) ?_
 refine s_v rfl rfl rfl rfl (v_mv rfl rfl) ?_
 refine s_v rfl rfl rfl rfl (v_ar rfl rfl rfl rfl) ?_
 refine s_end ?_
 refine q_seq ?_
 refine c_cond (t := decide (((i : Int) : Int) < (b : Int))) rfl rfl (fun h1_ => ?_) (fun h1_ => ?_)
 have h1_d := of_decide_eq_true h1_
 refine c_skip rfl ?_
 refine q_seq ?_
 refine c_seq rfl ?_
 refine c_block rfl ?_
 refine c_seq rfl ?_
 refine r_ord (l := [0, 1]) rfl (by kernel_rfl) (by kernel_rfl) ?_
 refine s_v rfl rfl rfl rfl (v_mv rfl rfl) ?_
 refine s_v rfl rfl rfl rfl (v_as rfl rfl) ?_
 refine s_end ?_
 refine q_seq ?_
 refine c_block rfl ?_
 have hib : i < b := by omega
 refine c_loop (σ := (Nat × List Int)) (fun s : (Nat × List Int) => match s with | (j, zs) => InI key ys a i j zs) (fun s : (Nat × List Int) => match s with | (j, zs) => j) (fun s : (Nat × List Int) => match s with | (j, zs) => [(0, .slice (some ⟨g, 0, none⟩) n cap), (1, .int .i64 (a : Int)), (2, .int .i64 (b : Int)), (3, .func (.func 27) #[] #[.pointer (some ⟨bl, 0, none⟩)]), (8, .int .i64 (i : Int)), (9, .int .i64 (j : Int))]) (fun s : (Nat × List Int) => match s with | (j, zs) => [.b g (.cells (RowI .i64 zs rest) 3 (0, 0)), .f (Φ)]) (i, ys) [0, 1] rfl (InI.start (by omega)) (subF_spec ⟨rfl, rfl, rfl, rfl, rfl, rfl, trivial⟩) rfl (by decide) ?_
 rintro ⟨j, zs⟩ hs
 have hs : InI key ys a i j zs := hs
 have hlz : zs.length = n := hs.len.trans hly
 have h_aj := hs.aj
 have h_ji := hs.ji
 refine c_seq rfl ?_
 refine c_seq rfl ?_
 refine r_any [.b g (.cells (RowI .i64 zs rest) 3 (0, 0)), .f (Φ)] (by kernel_rfl) rfl (by kernel_rfl) (mem_pick (idx := [0, 1]) rfl) ?_
 refine a_v 0 rfl (by kernel_rfl) (by kernel_rfl) (by kernel_rfl) rfl rfl rfl (v_mv rfl rfl) ?_
 refine a_v 1 rfl (by kernel_rfl) (by kernel_rfl) (by kernel_rfl) rfl rfl rfl (v_mv rfl rfl) ?_
 refine a_v 2 rfl (by kernel_rfl) (by kernel_rfl) (by kernel_rfl) rfl rfl rfl (v_ar rfl rfl rfl rfl) ?_
 refine a_v 3 rfl (by kernel_rfl) (by kernel_rfl) (by kernel_rfl) rfl rfl rfl (v_mv rfl rfl) ?_
 refine a_splitv (d := 21) (t := decide (((j : Int) : Int) > (a : Int))) rfl (fun h2_ => ?_) (fun h2_ => ?_)
 have h2_d := of_decide_eq_true h2_
 refine a_v 4 rfl (by kernel_rfl) (by kernel_rfl) (by kernel_rfl) rfl rfl rfl (v_mv rfl rfl) ?_
 refine a_v 5 rfl (by kernel_rfl) (by kernel_rfl) (by kernel_rfl) rfl rfl rfl (v_mv rfl rfl) ?_
 refine a_v 6 rfl (by kernel_rfl) (by kernel_rfl) (by kernel_rfl) rfl rfl rfl (v_mv rfl rfl) ?_
 refine a_v 7 rfl (by kernel_rfl) (by kernel_rfl) (by kernel_rfl) rfl rfl rfl (v_iaO (j := j) rfl Try.underlying25 SZ3 rfl rfl (by first | omega | (simp [swr_len, swp_len] <;> omega))) ?_
 refine a_v 8 rfl (by kernel_rfl) (by kernel_rfl) (by kernel_rfl) rfl rfl rfl (v_ldO (v := gt zs j) 0 rfl Try.underlying3 rfl rfl rfl (by first | omega | (simp [swr_len, swp_len] <;> omega)) (gt_eq (by first | omega | (simp [swr_len, swp_len] <;> omega))).symm) ?_
 refine a_v 9 rfl (by kernel_rfl) (by kernel_rfl) (by kernel_rfl) rfl rfl rfl (v_mv rfl rfl) ?_
 refine a_v 10 rfl (by kernel_rfl) (by kernel_rfl) (by kernel_rfl) rfl rfl rfl (v_mv rfl rfl) ?_
 refine a_v 11 rfl (by kernel_rfl) (by kernel_rfl) (by kernel_rfl) rfl rfl rfl (OpV.cast (v := .int .i64 ((j - 1 : Nat) : Int)) (v_ar rfl rfl rfl rfl) (subN (a := j) (b := 1) (by first | omega | (simp [swr_len, swp_len] <;> omega)) (by first | omega | (simp [swr_len, swp_len] <;> omega)))) ?_
 refine a_v 12 rfl (by kernel_rfl) (by kernel_rfl) (by kernel_rfl) rfl rfl rfl (v_iaO (j := j - 1) rfl Try.underlying25 SZ3 rfl rfl (by first | omega | (simp [swr_len, swp_len] <;> omega))) ?_
 refine a_v 13 rfl (by kernel_rfl) (by kernel_rfl) (by kernel_rfl) rfl rfl rfl (v_ldO (v := gt zs (j - 1)) 0 rfl Try.underlying3 rfl rfl rfl (by first | omega | (simp [swr_len, swp_len] <;> omega)) (gt_eq (by first | omega | (simp [swr_len, swp_len] <;> omega))).symm) ?_
 refine a_1 (i := 14) (by kernel_rfl) ?_
 refine i_e rfl rfl (e_callF [1] #[.int .i64 (gt zs j), .int .i64 (gt zs (j - 1)), .pointer (some ⟨bl, 0, none⟩)] rfl rfl rfl rfl rfl Try.func27 rfl (by decide) rfl rfl rfl rfl (fun w ht => hcmp _ _ w _ (hDg zs (hs.perm.trans ho.1.perm) j (by first | omega | (simp [swr_len, swp_len] <;> omega))).1 (hDg zs (hs.perm.trans ho.1.perm) j (by first | omega | (simp [swr_len, swp_len] <;> omega))).2 (hDg zs (hs.perm.trans ho.1.perm) (j - 1) (by first | omega | (simp [swr_len, swp_len] <;> omega))).1 (hDg zs (hs.perm.trans ho.1.perm) (j - 1) (by first | omega | (simp [swr_len, swp_len] <;> omega))).2)) ?_
 refine ⟨(mem_pick (idx := [0, 1]) rfl), ?_⟩
 refine a_v 15 rfl (by kernel_rfl) (by kernel_rfl) (by kernel_rfl) rfl rfl rfl (v_ar rfl rfl rfl rfl) ?_
 refine a_v 16 rfl (by kernel_rfl) (by kernel_rfl) (by kernel_rfl) rfl rfl rfl (v_pick rfl rfl rfl rfl) ?_
 refine a_end (by kernel_rfl) ?_
 refine q_seq ?_
 refine c_cond (t := decide ((cmp3 (key (gt zs j)) (key (gt zs (j - 1))) : Int) < 0)) rfl rfl (fun h3_ => ?_) (fun h3_ => ?_)
 have h3_d := of_decide_eq_true h3_
 have hck := cmp3_lt.1 h3_d
 refine c_skip rfl ?_
 refine q_seq ?_
 refine c_seq rfl ?_
 refine c_block rfl ?_
 refine r_any [.f (Φ)] (by kernel_rfl) rfl (by kernel_rfl) (mem_pick (idx := [1]) rfl) ?_
 refine a_v 0 rfl (by kernel_rfl) (by kernel_rfl) (by kernel_rfl) rfl rfl rfl (v_mv rfl rfl) ?_
 refine a_v 1 rfl (by kernel_rfl) (by kernel_rfl) (by kernel_rfl) rfl rfl rfl (v_mv rfl rfl) ?_
 refine a_v 2 rfl (by kernel_rfl) (by kernel_rfl) (by kernel_rfl) rfl rfl rfl (v_mv rfl rfl) ?_
 refine a_v 3 rfl (by kernel_rfl) (by kernel_rfl) (by kernel_rfl) rfl rfl rfl (v_mv rfl rfl) ?_
 refine a_v 4 rfl (by kernel_rfl) (by kernel_rfl) (by kernel_rfl) rfl rfl rfl (OpV.cast (v := .int .i64 ((j - 1 : Nat) : Int)) (v_ar rfl rfl rfl rfl) (subN (a := j) (b := 1) (by first | omega | (simp [swr_len, swp_len] <;> omega)) (by first | omega | (simp [swr_len, swp_len] <;> omega)))) ?_
 refine a_v 5 rfl (by kernel_rfl) (by kernel_rfl) (by kernel_rfl) rfl rfl rfl (v_mv rfl rfl) ?_
 refine a_v 6 rfl (by kernel_rfl) (by kernel_rfl) (by kernel_rfl) rfl rfl rfl (v_mv rfl rfl) ?_
 refine a_v 7 rfl (by kernel_rfl) (by kernel_rfl) (by kernel_rfl) rfl rfl rfl (OpV.cast (v := .int .i64 ((j - 1 : Nat) : Int)) (v_ar rfl rfl rfl rfl) (subN (a := j) (b := 1) (by first | omega | (simp [swr_len, swp_len] <;> omega)) (by first | omega | (simp [swr_len, swp_len] <;> omega)))) ?_
 refine a_v 8 rfl (by kernel_rfl) (by kernel_rfl) (by kernel_rfl) rfl rfl rfl (v_iaO (j := j - 1) rfl Try.underlying25 SZ3 rfl rfl (by first | omega | (simp [swr_len, swp_len] <;> omega))) ?_
 refine a_v 10 rfl (by kernel_rfl) (by kernel_rfl) (by kernel_rfl) rfl rfl rfl (v_mv rfl rfl) ?_
 refine a_v 11 rfl (by kernel_rfl) (by kernel_rfl) (by kernel_rfl) rfl rfl rfl (v_mv rfl rfl) ?_
 refine a_v 12 rfl (by kernel_rfl) (by kernel_rfl) (by kernel_rfl) rfl rfl rfl (v_iaO (j := j) rfl Try.underlying25 SZ3 rfl rfl (by first | omega | (simp [swr_len, swp_len] <;> omega))) ?_
 refine a_2 (i := 9) (j := 13) (by kernel_rfl) ?_ ?_
 refine i_v rfl rfl rfl rfl (v_ldO (v := gt zs (j - 1)) 0 rfl Try.underlying3 rfl rfl rfl (by first | omega | (simp [swr_len, swp_len] <;> omega)) (gt_eq (by first | omega | (simp [swr_len, swp_len] <;> omega))).symm) ?_
 refine a_1 (i := 13) (by kernel_rfl) ?_
 refine i_v rfl rfl rfl rfl (v_ldO (v := gt zs j) 0 rfl Try.underlying3 rfl rfl rfl (by first | omega | (simp [swr_len, swp_len] <;> omega)) (gt_eq (by first | omega | (simp [swr_len, swp_len] <;> omega))).symm) ?_
 refine a_v 14 rfl (by kernel_rfl) (by kernel_rfl) (by kernel_rfl) rfl rfl rfl (v_iaO (j := j) rfl Try.underlying25 SZ3 rfl rfl (by first | omega | (simp [swr_len, swp_len] <;> omega))) ?_
 refine a_1 (i := 15) (by kernel_rfl) ?_
 refine i_e rfl rfl (e_stO 0 rfl rfl SZ3 rfl rfl rfl (by first | omega | (simp [swr_len, swp_len] <;> omega))) ?_
 refine ⟨(mem_pick (idx := [1]) rfl), ?_⟩
 refine a_v 16 rfl (by kernel_rfl) (by kernel_rfl) (by kernel_rfl) rfl rfl rfl (v_iaO (j := j - 1) rfl Try.underlying25 SZ3 rfl rfl (by first | omega | (simp [swr_len, swp_len] <;> omega))) ?_
 refine a_1 (i := 17) (by kernel_rfl) ?_
 refine i_e rfl rfl (e_stO 0 rfl rfl SZ3 rfl rfl rfl (by first | omega | (simp [swr_len, swp_len] <;> omega))) ?_
 refine ⟨(mem_pick (idx := [1]) rfl), ?_⟩
 refine a_end (by kernel_rfl) ?_
 refine q_block ?_
 refine q_seq ?_
 refine r_ord (l := [0, 1, 2]) rfl (by kernel_rfl) (by kernel_rfl) ?_
 refine s_v rfl rfl rfl rfl (v_mv rfl rfl) ?_
 refine s_v rfl rfl rfl rfl (OpV.cast (v := .int .i64 ((j - 1 : Nat) : Int)) (v_ar rfl rfl rfl rfl) (subN (a := j) (b := 1) (by first | omega | (simp [swr_len, swp_len] <;> omega)) (by first | omega | (simp [swr_len, swp_len] <;> omega)))) ?_
 refine s_v rfl rfl rfl rfl (v_as rfl rfl) ?_
 refine s_end ?_
 exact q_again (j - 1, swp zs j (j - 1)) [0, 1] (hs.step (by omega) (by omega) hck) (by show j - 1 < j; omega) (subF_spec ⟨rfl, rfl, rfl, rfl, rfl, rfl, trivial⟩) rfl (by decide)
 refine i_v rfl rfl rfl rfl (v_ldO (v := gt zs j) 0 rfl Try.underlying3 rfl rfl rfl (by first | omega | (simp [swr_len, swp_len] <;> omega)) (gt_eq (by first | omega | (simp [swr_len, swp_len] <;> omega))).symm) ?_
 refine a_1 (i := 9) (by kernel_rfl) ?_
 refine i_v rfl rfl rfl rfl (v_ldO (v := gt zs (j - 1)) 0 rfl Try.underlying3 rfl rfl rfl (by first | omega | (simp [swr_len, swp_len] <;> omega)) (gt_eq (by first | omega | (simp [swr_len, swp_len] <;> omega))).symm) ?_
 refine a_v 14 rfl (by kernel_rfl) (by kernel_rfl) (by kernel_rfl) rfl rfl rfl (v_iaO (j := j) rfl Try.underlying25 SZ3 rfl rfl (by first | omega | (simp [swr_len, swp_len] <;> omega))) ?_
 refine a_1 (i := 15) (by kernel_rfl) ?_
 refine i_e rfl rfl (e_stO 0 rfl rfl SZ3 rfl rfl rfl (by first | omega | (simp [swr_len, swp_len] <;> omega))) ?_
 refine ⟨(mem_pick (idx := [1]) rfl), ?_⟩
 refine a_v 16 rfl (by kernel_rfl) (by kernel_rfl) (by kernel_rfl) rfl rfl rfl (v_iaO (j := j - 1) rfl Try.underlying25 SZ3 rfl rfl (by first | omega | (simp [swr_len, swp_len] <;> omega))) ?_
 refine a_1 (i := 17) (by kernel_rfl) ?_
 refine i_e rfl rfl (e_stO 0 rfl rfl SZ3 rfl rfl rfl (by first | omega | (simp [swr_len, swp_len] <;> omega))) ?_
 refine ⟨(mem_pick (idx := [1]) rfl), ?_⟩
 refine a_end (by kernel_rfl) ?_
 refine q_block ?_
 refine q_seq ?_
 refine r_ord (l := [0, 1, 2]) rfl (by kernel_rfl) (by kernel_rfl) ?_
 refine s_v rfl rfl rfl rfl (v_mv rfl rfl) ?_
 refine s_v rfl rfl rfl rfl (OpV.cast (v := .int .i64 ((j - 1 : Nat) : Int)) (v_ar rfl rfl rfl rfl) (subN (a := j) (b := 1) (by first | omega | (simp [swr_len, swp_len] <;> omega)) (by first | omega | (simp [swr_len, swp_len] <;> omega)))) ?_
 refine s_v rfl rfl rfl rfl (v_as rfl rfl) ?_
 refine s_end ?_
 exact q_again (j - 1, swp zs j (j - 1)) [0, 1] (hs.step (by omega) (by omega) hck) (by show j - 1 < j; omega) (subF_spec ⟨rfl, rfl, rfl, rfl, rfl, rfl, trivial⟩) rfl (by decide)
 have h3_d := of_decide_eq_false h3_
 have hend : j = a ∨ ¬ key (gt zs j) < key (gt zs (j - 1)) := .inr (fun h => h3_d (cmp3_lt.2 h))
 refine c_exit (i := 2) rfl rfl ?_
 refine q_then_exit ?_
 refine q_then_exit ?_
 refine q_block_here rfl ?_
 refine q_block ?_
 refine q_seq ?_
 refine r_ord (l := [0, 1, 2]) rfl (by kernel_rfl) (by kernel_rfl) ?_
 refine s_v rfl rfl rfl rfl (v_mv rfl rfl) ?_
 refine s_v rfl rfl rfl rfl (OpV.cast (v := .int .i64 ((i + 1 : Nat) : Int)) (v_ar rfl rfl rfl rfl) (addN (a := i) (b := 1) (by first | omega | (simp [swr_len, swp_len] <;> omega)))) ?_
 refine s_v rfl rfl rfl rfl (v_as rfl rfl) ?_
 refine s_end ?_
 exact q_again (i + 1, zs) [0, 1] ⟨hs.done ho.1 ho.2.2 (by omega) (by omega) hinc hend, .inl (by omega), by omega⟩ (by show b + 1 - (i + 1) < b + 1 - i; omega) (subF_spec ⟨rfl, rfl, rfl, rfl, rfl, trivial⟩) rfl (by decide)
 have h2_d := of_decide_eq_false h2_
 have hend : j = a ∨ ¬ key (gt zs j) < key (gt zs (j - 1)) := .inl (by have := hs.aj; omega)
 refine a_no 4 rfl (by kernel_rfl) (by kernel_rfl) (by kernel_rfl) rfl rfl rfl ?_
 refine a_no 5 rfl (by kernel_rfl) (by kernel_rfl) (by kernel_rfl) rfl rfl rfl ?_
 refine a_no 6 rfl (by kernel_rfl) (by kernel_rfl) (by kernel_rfl) rfl rfl rfl ?_
 refine a_no 7 rfl (by kernel_rfl) (by kernel_rfl) (by kernel_rfl) rfl rfl rfl ?_
 refine a_no 8 rfl (by kernel_rfl) (by kernel_rfl) (by kernel_rfl) rfl rfl rfl ?_
 refine a_no 9 rfl (by kernel_rfl) (by kernel_rfl) (by kernel_rfl) rfl rfl rfl ?_
 refine a_no 10 rfl (by kernel_rfl) (by kernel_rfl) (by kernel_rfl) rfl rfl rfl ?_
 refine a_no 11 rfl (by kernel_rfl) (by kernel_rfl) (by kernel_rfl) rfl rfl rfl ?_
 refine a_no 12 rfl (by kernel_rfl) (by kernel_rfl) (by kernel_rfl) rfl rfl rfl ?_
 refine a_no 13 rfl (by kernel_rfl) (by kernel_rfl) (by kernel_rfl) rfl rfl rfl ?_
 refine a_no 14 rfl (by kernel_rfl) (by kernel_rfl) (by kernel_rfl) rfl rfl rfl ?_
 refine a_no 15 rfl (by kernel_rfl) (by kernel_rfl) (by kernel_rfl) rfl rfl rfl ?_
 refine a_v 16 rfl (by kernel_rfl) (by kernel_rfl) (by kernel_rfl) rfl rfl rfl (v_pick rfl rfl rfl rfl) ?_
 refine a_end (by kernel_rfl) ?_
 refine q_seq ?_
 refine c_cond0 rfl rfl ?_
 refine c_exit (i := 2) rfl rfl ?_
 refine q_then_exit ?_
 refine q_then_exit ?_
 refine q_block_here rfl ?_
 refine q_block ?_
 refine q_seq ?_
 refine r_ord (l := [0, 1, 2]) rfl (by kernel_rfl) (by kernel_rfl) ?_
 refine s_v rfl rfl rfl rfl (v_mv rfl rfl) ?_
 refine s_v rfl rfl rfl rfl (OpV.cast (v := .int .i64 ((i + 1 : Nat) : Int)) (v_ar rfl rfl rfl rfl) (addN (a := i) (b := 1) (by first | omega | (simp [swr_len, swp_len] <;> omega)))) ?_
 refine s_v rfl rfl rfl rfl (v_as rfl rfl) ?_
 refine s_end ?_
 exact q_again (i + 1, zs) [0, 1] ⟨hs.done ho.1 ho.2.2 (by omega) (by omega) hinc hend, .inl (by omega), by omega⟩ (by show b + 1 - (i + 1) < b + 1 - i; omega) (subF_spec ⟨rfl, rfl, rfl, rfl, rfl, trivial⟩) rfl (by decide)
 have h1_d := of_decide_eq_false h1_
 refine c_exit (i := 0) rfl rfl ?_
 refine q_then_exit ?_
 refine q_then_exit ?_
 refine q_block_here rfl ?_
 refine q_take [0] rfl (by decide) ?_
 exact q_post_n rfl .nil (hX _ (ho.1.done (by omega) ho.2.1))
end Go.Eng
