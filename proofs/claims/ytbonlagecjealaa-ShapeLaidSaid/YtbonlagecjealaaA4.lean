/-
Own text, put together by an own program (shake.py) out of this claim's texts: what its theorem needs of them.
-/
import Derived.Test.YtbonlagecjealaaA3
import Derived.Lib.AppendZeros
import Derived.Deep.Upon
import Derived.WalkSpells
import Derived.Lib.BufferMore
import Derived.Test.YtbonlagecjealaaProg
import Derived.Below
import Derived.Deep.Draws
import Derived.Deep.AppendLies
import Derived.Maps.AppendAt
import Derived.OwnWalk
import Derived.Laws.BytesArg
import Derived.Laws.MakeOwn
import Derived.Laws.OwnMore
import Derived.Deep.OwnRows
import Derived.Tactics
import Derived.Lib.ConvBytes
import Derived.Laws.Slices
import Derived.WalkKit
import Derived.KernelRfl
import Derived.RowKit3
import Derived.Deep.LoopGhost
import Derived.Deep.QuietTactic
import Derived.BigQuiet
import Derived.WideLaws
import Derived.Deep.DeepCutAuto
import Derived.Deep.CutBlock
import Derived.Deep.RegionHeld3
import Derived.Laws.Rows
import Derived.Lib.AppendStr
import Derived.ArgAppend
import Derived.Laws.IdiomCopy
import Derived.OrdersHeld
import Derived.Laws.BitsLemmas
import Derived.RowKit
import Derived.Lib.Hide
import Derived.Deep.RegionLaw
import Derived.Deep.RegionLawGrows
import Derived.OwnWalkIn
namespace Go.Eng
open Go.RowKit Go.Proofs.YtbonlagecjealaaW.PrintWords
set_option linter.unusedVariables false
set_option linter.unusedSimpArgs false
theorem ite_y {α : Type} {p : Prop} [Decidable p] {x y r : α} (h : p) (H : (if p then x else y) = r) : x = r := by rwa [if_pos h] at H
theorem ite_n {α : Type} {p : Prop} [Decidable p] {x y r : α} (h : ¬ p) (H : (if p then x else y) = r) : y = r := by rwa [if_neg h] at H
theorem bind_s {α β : Type} {x : Option α} {f : α → Option β} {r : β} (H : x.bind f = some r) : ∃ t, x = some t ∧ f t = some r := Option.bind_eq_some_iff.1 H
theorem none_no {α : Type} {r : α} {p : Prop} (H : (none : Option α) = some r) : p := by cases H
theorem ite_no {α : Type} {p : Prop} [Decidable p] {x : Option α} {r : α} (H : (if p then x else none) = some r) : p ∧ x = some r := by
  by_cases h : p
  · rw [if_pos h] at H; exact ⟨h, H⟩
  · rw [if_neg h] at H; cases H
theorem not_t {b : Bool} (h : b = false) : ¬ b = true := by rw [h]; decide
theorem dec_t {p : Prop} [Decidable p] (h : decide p = true) : p := of_decide_eq_true h
theorem dec_f {p : Prop} [Decidable p] (h : decide p = false) : ¬ p := of_decide_eq_false h
theorem ibeq_t {a b : Int} (h : (a == b) = true) : a = b := by simpa using h
theorem ibeq_f {a b : Int} (h : (a == b) = false) : ¬ a = b := by simpa using h
theorem ibne_t {a b : Int} (h : (a != b) = true) : ¬ a = b := by simpa using h
theorem ibne_f {a b : Int} (h : (a != b) = false) : a = b := by simpa using h
theorem bnot_t {b : Bool} (h : (!b) = true) : b = false := by simpa using h
theorem bnot_f {b : Bool} (h : (!b) = false) : b = true := by simpa using h
abbrev Ro := Option (Nat × Nat × Array Value)
def OE (e : TypeId) : Ro → Ent
  | none => .f (fun _ => True)
  | some (g, _, cur) => .b g (.cells cur e (0, 0))
def OA : Ro → Option Addr
  | none => none
  | some (g, _, _) => some ⟨g, 0, none⟩
def OC : Ro → Nat
  | none => 0
  | some (_, c, _) => c
structure Flat {α : Type} (D : Kd α) (enc : α → List Value) : Prop where
  k : ∀ w x cs, D.K w x cs ↔ cs = enc x
  one : ∀ x, ∀ u ∈ enc x, u.oneCell' = true
  len : ∀ x, (enc x).length = D.sz
  pos : 0 < D.sz
theorem flat_int (k : IntKind) : Flat (Kd.int k) (fun x => [.int k x]) :=
  ⟨fun w x cs => ⟨fun h => by simpa [Kd.int, Kd.scalar] using h, fun h => by simpa [Kd.int, Kd.scalar] using h⟩, fun x u hu => by simp at hu; subst hu; rfl, fun _ => rfl, Nat.one_pos⟩
def ORow {α : Type} (m : Nat) (enc : α → List Value) (o : Ro) (xs : List α) : Prop := match o with
  | none => xs = []
  | some (_, cap, cur) => xs.length ≤ cap ∧ cap ≤ maxLen ∧ cur.size = cap * m ∧ cur.toList.take (xs.length * m) = xs.flatMap enc
theorem ORow.nil {α : Type} {m : Nat} {enc : α → List Value} : ORow m enc none [] := rfl
theorem flatMap_len {α : Type} {enc : α → List Value} {m : Nat} (h : ∀ x, (enc x).length = m) : ∀ xs : List α, (xs.flatMap enc).length = xs.length * m
  | [] => by simp
  | x :: r => by rw [List.flatMap_cons, List.length_append, h, flatMap_len h r, List.length_cons, Nat.succ_mul]; omega
theorem reps_flat {α : Type} {D : Kd α} {enc : α → List Value} (hf : Flat D enc) {w : World} {xs : List α} {inner : List Value} : Reps (D.K w) D.sz xs inner ↔ inner = xs.flatMap enc := by
  induction xs generalizing inner with
  | nil => exact ⟨fun h => List.eq_nil_of_length_eq_zero (by rw [h.1]; simp), fun h => by subst h; exact Reps.none _ _⟩
  | cons x r ih =>
    constructor
    · intro h
      have h0 := (hf.k w x _).1 (h.2 0 x rfl)
      have h1 : Reps (D.K w) D.sz r (inner.drop D.sz) := ⟨by rw [List.length_drop, h.1, List.length_cons, Nat.succ_mul]; omega, fun i p hp => by
        have := h.2 (i + 1) p (by simpa using hp)
        rw [List.drop_drop]
        rw [Nat.succ_mul, Nat.add_comm] at this
        exact this⟩
      rw [List.flatMap_cons, ← ih.1 h1, ← h0]
      simp
    · rintro rfl
      have h1 : Reps (D.K w) D.sz r (r.flatMap enc) := ih.2 rfl
      rw [List.flatMap_cons]
      refine ⟨by rw [List.length_append, hf.len, h1.1, List.length_cons, Nat.succ_mul]; omega, fun i p hp => ?_⟩
      cases i with
      | zero =>
        obtain rfl : x = p := by simpa using hp
        rw [Nat.zero_mul, List.drop_zero, List.take_append_of_le_length (by rw [hf.len]; exact Nat.le_refl _), List.take_of_length_le (by rw [hf.len]; exact Nat.le_refl _)]
        exact (hf.k w x _).2 rfl
      | succ i =>
        have := h1.2 i p (by simpa using hp)
        have e1 : (enc x ++ r.flatMap enc).drop ((i + 1) * D.sz) = (r.flatMap enc).drop (i * D.sz) := by
          have e2 : (i + 1) * D.sz = (enc x).length + i * D.sz := by rw [hf.len, Nat.succ_mul, Nat.add_comm]
          rw [e2, List.drop_length_add_append]
        rw [e1]
        exact this
theorem KC_ofReps0 {α : Type} {d : Kd α} {g cap e : Nat} {cur : Array Value} {xs : List α} {inner : List Value} {w : World} (hg : w.heap[g]? = some (.cells cur e (0, 0))) (hr : Reps (d.K w) d.sz xs inner) (htk : cur.toList.take (xs.length * d.sz) = inner) (hc : xs.length ≤ cap) (hm : cap ≤ maxLen) : KC d (some ⟨g, 0, none⟩) cap xs w := by
  refine ⟨⟨rfl, by simp only [maxLen] at hm; omega, fun _ => ⟨_, rfl, fun j p hj => ?_⟩⟩, hc⟩
  obtain ⟨hlt, _⟩ := List.getElem?_eq_some_iff.1 hj
  have hl : (inner.drop (j * d.sz)).length ≥ d.sz := by
    rw [List.length_drop, hr.1]
    have : (j + 1) * d.sz ≤ xs.length * d.sz := Nat.mul_le_mul_right _ (by omega)
    rw [Nat.succ_mul] at this
    omega
  refine ⟨(inner.drop (j * d.sz)).take d.sz, by rw [List.length_take]; omega, hr.2 j p hj, fun q u hq => ?_⟩
  rw [List.getElem?_take] at hq
  split at hq
  · rw [List.getElem?_drop, ← htk, List.getElem?_take] at hq
    split at hq
    · have e1 : (⟨g, 0, none⟩ : Addr).add (j * d.sz + q) = ⟨g, j * d.sz + q, none⟩ := by
        unfold Addr.add; split
        · rename_i h0; rw [h0]
        · simp
      rw [e1]
      have hq' : cur[j * d.sz + q]? = some u := by simpa using hq
      simp [World.cell?, hg, hq']
    · cases hq
  · cases hq
section
variable {P : Program} {W : Code → (Exit → Act → World → Prop) → Act → World → Prop} {n : Sz} {w0 : World} {I : Ix} {F : FL} {L : HL} {o : Oper} {Q : Exit → Act → World → Prop}
theorem tri_giveO {α : Type} {D : Kd α} {enc : α → List Value} {w : World} {L' : HL} {e : TypeId} {ro : Ro} {xs : List α} (hf : Flat D enc) (hr : ORow D.sz enc ro xs) (ht : Tri w0 I w L) (idx : List Nat) (hp : pick L idx = some (OE e ro :: L')) (hi : idx.Nodup) (hI : I.own = []) : Tri w0 I w (.f (KC D (OA ro) (OC ro) xs) :: L') := by
  cases ro with
  | none =>
    rw [show xs = [] from hr]
    have h1 : Tri w0 I w L' := ht.pick (fun p hm => mem_pick hp p (List.mem_cons_of_mem _ hm)) (by
      have := pick_nodup ht.nodup hp hi
      rwa [show ids (OE e none :: L') = ids L' from ids_f _ _] at this)
    exact h1.know (fun w' _ => KC_nil D w')
  | some t =>
    obtain ⟨g, cap, cur⟩ := t
    obtain ⟨h1, h2, h3, h4⟩ := hr
    exact tri_give ht idx hp hi (by rw [hI]; simp) (fun w hg => KC_ofReps0 hg ((reps_flat hf).2 rfl) h4 h1 h2)
theorem q_giveO {α : Type} {D : Kd α} {enc : α → List Value} {ex : Exit} {L' : HL} {e : TypeId} {ro : Ro} {xs : List α} (hf : Flat D enc) (hr : ORow D.sz enc ro xs) (idx : List Nat) (hp : pick L idx = some (OE e ro :: L')) (hi : idx.Nodup) (hI : I.own = []) (k : QW P W n w0 I ex Q F (.f (KC D (OA ro) (OC ro) xs) :: L')) : QW P W n w0 I ex Q F L :=
  fun fl np a w hfr ht => k fl np a w hfr (tri_giveO hf hr ht idx hp hi hI)
theorem s_giveO {α : Type} {D : Kd α} {enc : α → List Value} {ops : Array Oper} {l : List Nat} {L' : HL} {e : TypeId} {ro : Ro} {xs : List α} (hf : Flat D enc) (hr : ORow D.sz enc ro xs) (idx : List Nat) (hp : pick L idx = some (OE e ro :: L')) (hi : idx.Nodup) (hI : I.own = []) (k : SW P W n w0 I ops Q l F (.f (KC D (OA ro) (OC ro) xs) :: L')) : SW P W n w0 I ops Q l F L :=
  fun fl np a w hfr ht => k fl np a w hfr (tri_giveO hf hr ht idx hp hi hI)
theorem c_giveO {α : Type} {D : Kd α} {enc : α → List Value} {c : Code} {L' : HL} {e : TypeId} {ro : Ro} {xs : List α} (hf : Flat D enc) (hr : ORow D.sz enc ro xs) (idx : List Nat) (hp : pick L idx = some (OE e ro :: L')) (hi : idx.Nodup) (hI : I.own = []) (k : CW P W n w0 I c Q F (.f (KC D (OA ro) (OC ro) xs) :: L')) : CW P W n w0 I c Q F L :=
  fun fl np a w hfr ht => k fl np a w hfr (tri_giveO hf hr ht idx hp hi hI)
theorem ids_set_fact {L : HL} {g j : Nat} {u : Obj} (hn : (ids L).Nodup) (hg : g ∉ ids L) (hi : ∀ m q, L[j]? ≠ some (.b m q)) : (ids (L.set j (.b g u))).Nodup ∧ ∀ x ∈ ids (L.set j (.b g u)), x = g ∨ x ∈ ids L := by
  induction L generalizing j with
  | nil => exact ⟨by simp [ids], fun x hx => by simp [ids] at hx⟩
  | cons e r ih =>
    cases j with
    | zero =>
      cases e with
      | b m q => exact absurd rfl (hi m q)
      | f φ =>
        rw [ids_f] at hn hg
        rw [List.set_cons_zero, ids_b, List.nodup_cons]
        exact ⟨⟨hg, hn⟩, fun x hx => by rw [ids_f]; exact List.mem_cons.1 hx⟩
    | succ j =>
      have hi' : ∀ m q, r[j]? ≠ some (.b m q) := fun m q h => hi m q (by simpa using h)
      rw [List.set_cons_succ]
      cases e with
      | b m q =>
        rw [ids_b, List.nodup_cons] at hn
        rw [ids_b, List.mem_cons, not_or] at hg
        obtain ⟨h1, h2⟩ := ih hn.2 hg.2 hi'
        rw [ids_b, ids_b, List.nodup_cons]
        refine ⟨⟨fun hm => ?_, h1⟩, fun x hx => ?_⟩
        · rcases h2 m hm with h3 | h3
          · exact hg.1 h3.symm
          · exact hn.1 h3
        · rcases List.mem_cons.1 hx with h3 | h3
          · exact .inr (h3 ▸ List.mem_cons_self)
          · exact (h2 x h3).imp id (List.mem_cons_of_mem _)
      | f φ =>
        rw [ids_f] at hn hg
        rw [ids_f, ids_f]
        exact ih hn hg hi'
theorem tri_setNew {w : World} {g j : Nat} {u : Obj} (h : Tri w0 I w (.b g u :: L)) (hi : ∀ m q, L[j]? ≠ some (.b m q)) : Tri w0 I w (L.set j (.b g u)) := by
  have hn := h.nodup
  rw [ids_b, List.nodup_cons] at hn
  refine h.pick (fun p hp => ?_) (ids_set_fact hn.2 hn.1 hi).1
  rcases List.mem_or_eq_of_mem_set hp with h1 | h1
  · exact List.mem_cons_of_mem _ h1
  · rw [h1]; exact List.mem_cons_self
theorem Tri.appNew {w w' : World} {g : Nat} {u : Obj} (htr : Tri w0 I w L) (hbel : Below w.heap.size w w') (hgh : w'.heap[g]? = some u) (hge : w.heap.size ≤ g) : Tri w0 I w' (.b g u :: L) := by
  have h1 := htr.of_below hbel
  have hgn : g ∉ ids L := fun hm' => by have := htr.lt hm'; omega
  refine { toAgree := h1.toAgree, at_ := fun j o' hp => ?_, own := fun j hj => ?_, nodup := by rw [ids_b, List.nodup_cons]; exact ⟨hgn, h1.nodup⟩, hol := h1.hol, facts := fun φ hφ => ?_ }
  · rcases List.mem_cons.1 hp with hp | hp
    · injection hp with e1 e2; subst e1 e2; exact hgh
    · exact h1.at_ j o' hp
  · rw [ids_b] at hj
    rcases List.mem_cons.1 hj with rfl | hj
    · have := htr.size; exact .inr (by omega)
    · exact h1.own j hj
  · have hφ' : Ent.f φ ∈ L := by
      rcases List.mem_cons.1 hφ with hφ | hφ
      · cases hφ
      · exact hφ
    refine (htr.facts φ hφ').on (Agree.of_below hbel) (fun x hx hlt => ?_)
    rw [ids_b] at hx
    rcases List.mem_append.1 hx with hx | hx
    · exact List.mem_append_left _ hx
    · rcases List.mem_cons.1 hx with rfl | hx
      · omega
      · exact List.mem_append_right _ hx
theorem e_appO {α : Type} {enc : α → List Value} {t e : TypeId} {c : Call} {x y : Operand} {z : Value} {m bytes cp d i j : Nat} {b off : Nat} {cs : List Value} {ro : Ro} {xs : List α} {v : α} {ee : TypeId} (ho : o.op = .call c) (hc : c.callee = .builtin .append) (hca : c.args = #[x, y]) (hct : c.argTypes = #[t, t]) (hd : o.dst = some d) (hn : Nat.blt d n.n = true)
    (ht : P.underlying t = some (.slice e)) (hi : (P.info? e).map (fun i => (i.zero, i.size, i.bytes)) = some (some z, m, bytes)) (hz : z.cells.size = m) (hm : 0 < m)
    (hx : ev F x = some (.slice (OA ro) xs.length (OC ro))) (hLg : L[j]? = some (OE e ro)) (hr : ORow m enc ro xs)
    (hy : ev F y = some (.slice (some ⟨b, off, none⟩) 1 cp)) (hL : L[i]? = some (.b b (.cells cs.toArray ee (0, 0)))) (hnews : (cs.drop off).take (1 * m) = enc v) (hnl : (enc v).length = 1 * m) (hone : ∀ u ∈ enc v, u.oneCell' = true) (hkb : (xs.length + 1) * bytes ≤ 140737488355328) (hkm : xs.length + 1 ≤ maxLen) :
    OpE P n w0 I o F L (fun X => ∀ ro', ORow m enc ro' (xs ++ [v]) → ro'.isSome = true → X ((d, .slice (OA ro') (xs ++ [v]).length (OC ro')) :: F) (L.set j (OE e ro'))) := by
  intro X hX a w hfr htr K Q np hK
  cases ro with
  | none =>
    obtain rfl : xs = [] := hr
    refine e_app_nil (i := i) ho hc hca hct hd hn ht hi hz hm hx hy hL hnews hnl hone (by decide) (by simpa using hkb) (by simpa using hkm) (fun F' L' => ∃ g cap cur, 1 ≤ cap ∧ cap ≤ maxLen ∧ cur.size = cap * m ∧ cur.toList.take (1 * m) = enc v ∧ F' = (d, Value.slice (some ⟨g, 0, none⟩) 1 cap) :: F ∧ L' = .b g (.cells cur e (0, 0)) :: L) (fun g cap cur h1 h2 h3 h4 => ⟨g, cap, cur, h1, h2, h3, h4, rfl, rfl⟩) a w hfr htr K Q np ?_
    rintro F' L' ⟨g, cap, cur, h1, h2, h3, h4, rfl, rfl⟩ a' w' hf' ht'
    refine hK _ _ (hX (some (g, cap, cur)) ⟨h1, h2, h3, ?_⟩ rfl) a' w' hf' (tri_setNew ht' ?_)
    · show cur.toList.take (1 * m) = _
      rw [h4]; simp
    · intro p q he
      rw [hLg] at he
      cases he
  | some tt =>
    obtain ⟨g, cap, cur⟩ := tt
    obtain ⟨h1, h2, h3, h4⟩ := hr
    refine e_app (i := i) (j := j) ho hc hca hct hd hn ht hi hz hm hx hLg h1 h2 h3 h4 hy hL hnews hnl hone hkb hkm (fun F' L' => ∃ g cap cur, xs.length + 1 ≤ cap ∧ cap ≤ maxLen ∧ cur.size = cap * m ∧ cur.toList.take ((xs.length + 1) * m) = xs.flatMap enc ++ enc v ∧ F' = (d, Value.slice (some ⟨g, 0, none⟩) (xs.length + 1) cap) :: F ∧ L' = L.set j (.b g (.cells cur e (0, 0)))) (fun g cap cur h1 h2 h3 h4 => ⟨g, cap, cur, h1, h2, h3, h4, rfl, rfl⟩) a w hfr htr K Q np ?_
    rintro F' L' ⟨g, cap, cur, h1, h2, h3, h4, rfl, rfl⟩ a' w' hf' ht'
    have hl : (xs ++ [v]).length = xs.length + 1 := by simp
    refine hK _ _ (hX (some (g, cap, cur)) ⟨by rw [hl]; exact h1, h2, h3, by rw [hl, h4]; simp⟩ rfl) a' w' (by rw [hl]; exact hf') ht'
theorem e_appOK {α : Type} {D : Kd α} {enc : α → List Value} (hfl : Flat D enc) {t e : TypeId} {c : Call} {x y : Operand} {z : Value} {m bytes d i j : Nat} {ro : Ro} {xs l : List α} {B : Option Addr} {lb cb cb' : Nat} (ho : o.op = .call c) (hc : c.callee = .builtin .append) (hca : c.args = #[x, y]) (hct : c.argTypes = #[t, t]) (hd : o.dst = some d) (hn : Nat.blt d n.n = true)
    (ht : P.underlying t = some (.slice e)) (hi : (P.info? e).map (fun i => (i.zero, i.size, i.bytes)) = some (some z, m, bytes)) (hz : z.cells.size = m) (hsz : D.sz = m)
    (hx : ev F x = some (.slice (OA ro) xs.length (OC ro))) (hLg : L[j]? = some (OE e ro)) (hr : ORow m enc ro xs)
    (hy : ev F y = some (.slice B lb cb)) (hlb : lb = l.length) (hLb : L[i]? = some (.f (KC D B cb' l))) (hkb : (xs.length + l.length) * bytes ≤ 140737488355328) (hkm : xs.length + l.length ≤ maxLen) :
    OpE P n w0 I o F L (fun X => ∀ ro', ORow m enc ro' (xs ++ l) → (ro.isSome = true → ro'.isSome = true) → X ((d, .slice (OA ro') (xs ++ l).length (OC ro')) :: F) (L.set j (OE e ro'))) := by
  subst hlb hsz
  intro X hX a w hf htr K Q np hK
  obtain ⟨inf, hinf, hz'⟩ := Option.map_eq_some_iff.1 hi
  simp only [Prod.mk.injEq] at hz'
  have hst : Stab (I.holes ++ ids L) w (KC D B cb' l) := htr.facts _ (List.mem_of_getElem? hLb)
  obtain ⟨inner, hre, hcl⟩ := KC_reps hst.here
  have hin := (reps_flat hfl).1 hre
  subst hin
  have hev : ∀ u, (Builtin.append_ #[t, t] o.type #[.slice (OA ro) xs.length (OC ro), .slice B l.length cb]).run P w = u → (execOp a.eval o).run P w = u.andThen fun v w' => .ok (.value v) w' := by
    rintro _ rfl
    simp only [execOp, ho, resolve, hc, hca, hct, Sem.run_bind, Sem.run_pure, Result.andThen_ok, invoke, builtin, List.map_toArray, List.map_cons, List.map_nil, hf.ev hx, hf.ev hy]
  by_cases hb : l = []
  · subst hb
    have hle : xs.length ≤ OC ro := by
      cases ro with
      | none => rw [show xs = [] from hr]; exact Nat.le_refl _
      | some tt => obtain ⟨g, cap, cur⟩ := tt; exact hr.1
    have hrun : (Builtin.append_ #[t, t] o.type #[.slice (OA ro) xs.length (OC ro), .slice B ([] : List α).length cb]).run P w = .ok (.slice (OA ro) xs.length (OC ro)) w := by
      have h1 : ¬ (OC ro < xs.length) := by omega
      cases hA : OA ro <;> cases B <;> simp [Builtin.append_, run_underlying ht, sizeOf, typeInfo, program, Sem.run, hinf, hz'.2.1, Builtin.lenOf, Builtin.firstCells, loadCells, loadCellsFrom, storeCells, hle]
    unfold Oper.wp
    rw [hev _ hrun, Result.andThen_ok, Oper.upon_value, hd]
    have hh := hX ro (by rw [List.append_nil]; exact hr) id
    rw [List.append_nil] at hh
    refine hK _ _ hh _ _ (hf.put (blt_lt hn) _) ?_
    have hset : L.set j (OE e ro) = L := by
      apply List.ext_getElem?
      intro q
      rw [List.getElem?_set]
      split
      · rename_i e1; subst e1
        split
        · exact hLg.symm
        · rename_i h2; rw [List.getElem?_eq_none (by omega)]
      · rfl
    rw [hset]
    exact htr
  · have hbl : 0 < l.length := (by cases l with | nil => exact absurd rfl hb | cons _ _ => simp)
    obtain ⟨bd, rfl⟩ : ∃ bd, B = some bd := by obtain ⟨ad, h1, _⟩ := hst.here.1.2.2 hbl; exact ⟨ad, h1⟩
    have hone : ∀ u ∈ l.flatMap enc, u.oneCell' = true := fun u hu => by
      obtain ⟨p, _, hp⟩ := List.mem_flatMap.1 hu
      exact hfl.one p u hp
    have hnl : (l.flatMap enc).length = l.length * D.sz := flatMap_len hfl.len l
    cases ro with
    | none =>
      obtain rfl : xs = [] := hr
      have hown : w.ownsRow w.heap.size e D.sz (.slice none 0 0) 0 [] := ⟨by simp, .inl ⟨rfl, rfl⟩⟩
      obtain ⟨v', w', hrun, hrow, hgrow, hnil, hat⟩ := run_append_own_at (P := P) w w.heap.size t o.type e inf z D.sz bytes ht hinf hz'.1 hz'.2.1 hz'.2.2 hz hfl.pos _ 0 [] hown bd l.length cb (l.flatMap enc) hnl (hcl bd rfl) hone (by simpa using hkm) (by simpa using hkb) (Nat.le_refl _)
      obtain ⟨hl, hcase⟩ := hrow
      rcases hcase with ⟨rfl, h0⟩ | ⟨g', cap', cur', rfl, hge, hgh, hnc, hcm', hsz, htk⟩
      · have := (hnil.1 rfl).2; omega
      · have hrun' : (execOp a.eval o).run P w = .ok (.value (.slice (some ⟨g', 0, none⟩) (0 + l.length) cap')) w' := hev _ hrun
        unfold Oper.wp
        rw [hrun', Oper.upon_value, hd]
        have hnew : Tri w0 I w' (.b g' (.cells cur' e (0, 0)) :: L) := by
          exact htr.appNew ⟨hgrow.os, hgrow.tape, hgrow.output, hgrow.size, fun j hj => hgrow.block j hj (by simp [Value.ownBlock])⟩ hgh hge
        rw [Nat.zero_add] at htk hnc
        refine hK _ _ (hX (some (g', cap', cur')) ⟨hnc, hcm', hsz, htk⟩ (fun _ => rfl)) _ _ (by rw [Nat.zero_add]; exact hf.put (blt_lt hn) _) (tri_setNew hnew ?_)
        intro p q he
        rw [hLg] at he
        cases he
    | some tt =>
      obtain ⟨g, cap, cur⟩ := tt
      obtain ⟨h1, h2, h3, h4⟩ := hr
      have hgget := htr.toWS.get hLg
      have hown : w.ownsRow 0 e D.sz (.slice (some ⟨g, 0, none⟩) xs.length cap) xs.length (xs.flatMap enc) := ⟨flatMap_len hfl.len xs, .inr ⟨g, cap, cur, rfl, Nat.zero_le _, hgget, h1, h2, h3, h4⟩⟩
      obtain ⟨v', w', hrun, hrow, hgrow, hnil, hat⟩ := run_append_own_at (P := P) w 0 t o.type e inf z D.sz bytes ht hinf hz'.1 hz'.2.1 hz'.2.2 hz hfl.pos _ xs.length (xs.flatMap enc) hown bd l.length cb (l.flatMap enc) hnl (hcl bd rfl) hone hkm hkb (Nat.zero_le _)
      obtain ⟨hl, hcase⟩ := hrow
      rcases hcase with ⟨rfl, h0⟩ | ⟨g', cap', cur', rfl, _, hgh, hnc, hcm', hsz, htk⟩
      · have := hnil.1 rfl; cases this.1
      · have hrun' : (execOp a.eval o).run P w = .ok (.value (.slice (some ⟨g', 0, none⟩) (xs.length + l.length) cap')) w' := hev _ hrun
        unfold Oper.wp
        rw [hrun', Oper.upon_value, hd]
        have hll : (xs ++ l).length = xs.length + l.length := by simp
        refine hK _ _ (hX (some (g', cap', cur')) ⟨by rw [hll]; exact hnc, hcm', hsz, by rw [hll, htk]; simp⟩ (fun _ => rfl)) _ _ (by rw [hll]; exact hf.put (blt_lt hn) _) ?_
        exact htr.swap hLg hgrow hgh (by simp [Value.ownBlock] at hat; omega)
theorem c_join {β : Type} {c : Code} (Φ : β → Prop) (Fj : β → FL) (Lj : β → HL) (h : cK c = 1) (hJ : ∀ b, Φ b → CW P W n w0 I (cB c) Q (Fj b) (Lj b)) (k : (∀ b, Φ b → CW P W n w0 I (cB c) Q (Fj b) (Lj b)) → CW P W n w0 I (cA c) (Exit.then (fun a w => W (cB c) Q a w) Q) F L) : CW P W n w0 I c Q F L := c_seq h (k hJ)
end
end Go.Eng
namespace Go.Eng
open Go.RowKit Go.Proofs.YtbonlagecjealaaW.PrintWords
set_option linter.unusedVariables false
set_option linter.unusedSimpArgs false
section
variable {P : Program} {W : Code → (Exit → Act → World → Prop) → Act → World → Prop} {n : Sz} {w0 : World} {I : Ix} {F : FL} {L : HL} {o : Oper} {Q : Exit → Act → World → Prop}
theorem v_iaI {t e : TypeId} {x y : Operand} {g len cap : Nat} {kk : IntKind} {j : Int} (ho : o.op = .indexAddr t x y) (ht : P.underlying t = some (.slice e)) (hm : (P.info? e).map (·.size) = some 1) (hx : ev F x = some (.slice (some ⟨g, 0, none⟩) len cap)) (hy : ev F y = some (.int kk j)) (h0 : 0 ≤ j) (h1 : j < (len : Int)) : OpV P n w0 I o F L (.pointer (some ⟨g, j.toNat, none⟩)) :=
  v_iaO (j := j.toNat) ho ht hm hx (by rw [Int.toNat_of_nonneg h0]; exact hy) (by omega)
theorem v_ldI {k : IntKind} {t : TypeId} {x : Operand} {g : Nat} {j : Int} {xs : List Int} {rest : List Value} {e : TypeId} {fz : Nat × Nat} {D : TypeDesc} (i : Nat) (ho : o.op = .load t x) (ht : P.underlying t = some D) (hd : notAgg D = true) (hx : ev F x = some (.pointer (some ⟨g, j.toNat, none⟩))) (hL : L[i]? = some (.b g (.cells (RowI k xs rest) e fz))) (h0 : 0 ≤ j) (h1 : j < (xs.length : Int)) : OpV P n w0 I o F L (.int k (rd xs j)) :=
  v_ldO i ho ht hd hx hL (show j.toNat < xs.length by omega) (by unfold rd; rw [List.getD_eq_getElem?_getD, List.getElem?_eq_getElem (by omega)]; rfl)
theorem e_stI {k : IntKind} {t : TypeId} {x y : Operand} {g : Nat} {j : Int} {xs : List Int} {rest : List Value} {e : TypeId} {v : Int} (i : Nat) (ho : o.op = .store t x y) (hd : o.dst = none) (hm : (P.info? t).map (·.size) = some 1) (hx : ev F x = some (.pointer (some ⟨g, j.toNat, none⟩))) (hy : ev F y = some (.int k v))
    (hL : L[i]? = some (.b g (.cells (RowI k xs rest) e (0, 0)))) (h0 : 0 ≤ j) (h1 : j < (xs.length : Int)) : OpE P n w0 I o F L (fun X => X F (L.set i (.b g (.cells (RowI k (xs.set j.toNat v) rest) e (0, 0))))) :=
  e_stO i ho hd hm hx hy hL (show j.toNat < xs.length by omega)
end
end Go.Eng
namespace Go.Eng
open Go.RowKit
set_option linter.unusedVariables false
set_option linter.unusedSimpArgs false
theorem and_mask (n : Int) (m : Nat) (hm : m ≤ 63) : ((BitVec.ofInt 64 n &&& BitVec.ofInt 64 (2 ^ m - 1)).toNat : Int) = n % 2 ^ m := by
  have h0 : 0 < 2 ^ m := Nat.two_pow_pos m
  have h1 : ((2 : Int) ^ m - 1) = ((2 ^ m - 1 : Nat) : Int) := by
    rw [Int.natCast_sub (by omega)]
    simp
  have h2 : 2 ^ m - 1 < 2 ^ 64 := by
    have : 2 ^ m ≤ 2 ^ 63 := Nat.pow_le_pow_right (by decide) hm
    have : (2 : Nat) ^ 63 < 2 ^ 64 := by decide
    omega
  rw [h1, BitVec.ofInt_natCast, BitVec.toNat_and, BitVec.toNat_ofNat, Nat.mod_eq_of_lt h2, Nat.and_two_pow_sub_one_eq_mod, BitVec.toNat_ofInt]
  have h3 : ((2 ^ 64 : Nat) : Int) = 2 ^ m * 2 ^ (64 - m) := by
    rw [← Int.pow_add, show m + (64 - m) = 64 by omega]
    rfl
  have h4 : 0 ≤ n % ((2 ^ 64 : Nat) : Int) := Int.emod_nonneg _ (by decide)
  rw [Int.natCast_emod, Int.toNat_of_nonneg h4, h3]
  rw [show (((2 ^ m : Nat) : Int)) = (2 : Int) ^ m by simp]
  exact Int.emod_emod_of_dvd n (Int.dvd_mul_right _ _)
theorem wu64 {n : Int} (h0 : 0 ≤ n) (h1 : n < 18446744073709551616) : IntKind.wrap .u64 n = n := by
  simp only [IntKind.wrap, IntKind.bits, IntKind.signed, Bool.false_and, Bool.false_eq_true, if_false]
  omega
theorem wi64 {n : Int} (h0 : -9223372036854775808 ≤ n) (h1 : n < 9223372036854775808) : IntKind.wrap .i64 n = n := by
  show (if (true && decide (n % 18446744073709551616 ≥ 9223372036854775808)) = true then n % 18446744073709551616 - 18446744073709551616 else n % 18446744073709551616) = n
  rw [Bool.true_and]
  by_cases h : n % 18446744073709551616 ≥ 9223372036854775808
  · rw [if_pos (decide_eq_true h)]; omega
  · rw [if_neg (by simpa using h)]; omega
theorem wrap_small (k : IntKind) (n : Int) (h0 : 0 ≤ n) (h1 : n < 9223372036854775808) (hk : k = .u64 ∨ k = .i64 := by decide) : k.wrap n = n := by
  rcases hk with rfl | rfl
  · exact wu64 h0 (by omega)
  · exact wi64 (by omega) h1
theorem and32 (y : Int) : ((BitVec.ofInt 64 y &&& BitVec.ofInt 64 4294967295).toNat : Int) = y % 4294967296 := by
  have h := and_mask y 32 (by decide)
  rw [show (2 : Int) ^ 32 - 1 = 4294967295 by decide, show (2 : Int) ^ 32 = 4294967296 by decide] at h
  exact h
theorem and30 (y : Int) : ((BitVec.ofInt 64 y &&& BitVec.ofInt 64 1073741823).toNat : Int) = y % 1073741824 := by
  have h := and_mask y 30 (by decide)
  rw [show (2 : Int) ^ 30 - 1 = 1073741823 by decide, show (2 : Int) ^ 30 = 1073741824 by decide] at h
  exact h
end Go.Eng
namespace Go.Eng
open Go.RowKit Go.Proofs.YtbonlagecjealaaW.PrintWords
set_option linter.unusedVariables false
set_option linter.unusedSimpArgs false
theorem orow_empty {α : Type} {m b : Nat} {enc : α → List Value} : ORow m enc (some (b, 0, #[])) ([] : List α) := ⟨by simp, by decide, by simp, by simp⟩
def dropA (A : Option Addr) (c m s : Nat) : Option Addr := if c = m then A else A.map (·.add (m * s))
theorem KC_drop {α : Type} {d : Kd α} {A : Option Addr} {c : Nat} {l : List α} {w : World} (m s : Nat) (hs : d.sz = s) (hm : m ≤ l.length) (h : KC d A c l w) : KC d (dropA A c m s) (c - m) (l.drop m) w := by
  subst hs
  exact ⟨Kd.C_drop h.1 hm h.2, by rw [List.length_drop]; have := h.2; omega⟩
theorem lt_lh {xs : List Int} {N : Nat} {j : Int} (lh : xs.length = N) (h : j < (N : Int)) : j < (xs.length : Int) := by rw [lh]; exact h
theorem lh_set {xs : List Int} {N i : Nat} {v : Int} (lh : xs.length = N) : (xs.set i v).length = N := by rw [List.length_set]; exact lh
section
variable {P : Program} {W : Code → (Exit → Act → World → Prop) → Act → World → Prop} {n : Sz} {w0 : World} {I : Ix} {F : FL} {L : HL} {o : Oper} {Q : Exit → Act → World → Prop}
theorem v_slHi {t e : TypeId} {x y : Operand} {A : Option Addr} {len cap sz : Nat} {kh : IntKind} {h : Int} (ho : o.op = .slice t x none (some y) none) (ht : P.underlying t = some (.slice e)) (hsz : (P.info? e).map (·.size) = some sz) (hx : ev F x = some (.slice A len cap)) (hy : ev F y = some (.int kh h)) (h0 : 0 ≤ h) (h1 : h ≤ (cap : Int)) : OpV P n w0 I o F L (.slice A h.toNat cap) := by
  intro a w hf hs
  have ha : (A.map fun x => x.add 0) = A := by cases A <;> simp [Addr.add]
  simp [execOp, ho, hf.ev hx, hf.ev hy, Instr.sliceAt, run_underlying ht, Instr.slice, Instr.sliceBounds, Instr.sliceBound, asIntOf, h0, h1, run_size hsz, ha]
theorem v_slLo {t e : TypeId} {x y : Operand} {A : Option Addr} {len cap sz : Nat} {kh : IntKind} {h : Int} (ho : o.op = .slice t x (some y) none none) (ht : P.underlying t = some (.slice e)) (hsz : (P.info? e).map (·.size) = some sz) (hx : ev F x = some (.slice A len cap)) (hy : ev F y = some (.int kh h)) (h0 : 0 ≤ h) (h1 : h ≤ (len : Int)) : OpV P n w0 I o F L (.slice (dropA A cap h.toNat sz) (len - h.toNat) (cap - h.toNat)) := by
  intro a w hf hs
  simp [execOp, ho, hf.ev hx, hf.ev hy, Instr.sliceAt, run_underlying ht, Instr.slice, Instr.sliceBounds, Instr.sliceBound, asIntOf, h0, h1, run_size hsz, dropA]
theorem v_eqSN {t t' e : TypeId} {x y : Operand} {A : Option Addr} {len cap : Nat} (ho : o.op = .binOp .eql t x y t') (ht : P.underlying t = some (.slice e)) (hx : ev F x = some (.slice A len cap)) (hy : ev F y = some (.slice none 0 0)) : OpV P n w0 I o F L (.bool A.isNone) := by
  intro a w hf hs
  have := Lib.run_eql_slice_nil (P := P) w t e A len cap 0 0 ht
  simp [execOp, ho, hf.ev hx, hf.ev hy, eqGuard, this]
theorem v_neA {t t' : TypeId} {x y : Operand} {xs ys : Array Value} {r : Bool} (ho : o.op = .binOp .neq t x y t') (hx : ev F x = some (.agg xs)) (hy : ev F y = some (.agg ys)) (hg : P.eqGuardType P.depth t = false) (he : ∀ d w, (Op.equalIn (d + 2) t (.agg xs) (.agg ys)).run P w = .ok r w) : OpV P n w0 I o F L (.bool (!r)) := by
  intro a w hf hs
  obtain ⟨d, hd⟩ := eqDepth
  simp [execOp, ho, hf.ev hx, hf.ev hy, eqGuard, binOp, hg, Op.equal, hd]
  have := he d w
  simp [this]
theorem e_makeI {t e : TypeId} {x y : Operand} {d bytes : Nat} {m : Int} {k k' kk : IntKind} (ho : o.op = .makeSlice t x y) (hd : o.dst = some d) (hn : Nat.blt d n.n = true) (ht : P.underlying t = some (.slice e)) (hi : (P.info? e).map (fun i => (i.zero, i.size, i.bytes)) = some (some (.int kk 0), 1, bytes)) (hx : ev F x = some (.int k m)) (hy : ev F y = some (.int k' m)) (h0 : 0 ≤ m) (hm : m.toNat * bytes ≤ 140737488355328) (hm' : m.toNat ≤ maxLen) :
    OpE P n w0 I o F L (fun X => ∀ g, X ((d, .slice (some ⟨g, 0, none⟩) m.toNat m.toNat) :: F) (.b g (.cells (RowI kk (List.replicate m.toNat 0) []) e (0, 0)) :: L)) := by
  intro X hX a w hf htr K Q np hK
  obtain ⟨inf, hinf, hz⟩ := Option.map_eq_some_iff.1 hi
  simp only [Prod.mk.injEq] at hz
  have hrun := run_make (P := P) w t e inf (.int kk 0) ht hinf hz.1 k k' m m h0 (Int.le_refl _) (by
    have e1 : (m.toNat : Int) = m := Int.toNat_of_nonneg h0
    have e2 : ((m.toNat * bytes : Nat) : Int) ≤ 140737488355328 := Int.ofNat_le.2 hm
    rw [Int.natCast_mul, e1, Int.mul_comm] at e2
    rw [hz.2.2]; omega) (by simp only [maxLen] at hm'; omega)
  have hc : madeCells (Value.int kk 0).cells (m.toNat * inf.size) = RowI kk (List.replicate m.toNat 0) [] := by
    rw [hz.2.1, Nat.mul_one]
    apply Array.ext
    · simp [madeCells, RowI]
    · intro i h1 h2
      have e1 : (Value.int kk 0).cells[i % (Value.int kk 0).cells.size]! = .int kk 0 := by
        have : i % (Value.int kk 0).cells.size = 0 := Nat.mod_one i
        rw [this]; rfl
      simp only [madeCells, Array.getElem_map, Array.getElem_range, e1]
      simp [RowI]
  have hr : (execOp a.eval o).run P w = .ok (.value (.slice (some ⟨w.heap.size, 0, none⟩) m.toNat m.toNat)) { w with heap := w.heap.push (.cells (RowI kk (List.replicate m.toNat 0) []) e (0, 0)) } := by
    simp only [execOp, ho, hf.ev hx, hf.ev hy, Sem.run_bind, Sem.run_pure, Result.andThen_ok, hrun]
    rw [hc]
    rfl
  unfold Oper.wp
  rw [hr, Oper.upon_value, hd]
  exact hK _ _ (hX w.heap.size) _ _ (hf.put (blt_lt hn) _) (htr.alloc _)
theorem kslice_sh {α : Type} {e : Nat} {D : Kd α} {w : World} {xs : List α} {cs : List Value} (h : (Kd.slice e D).K w xs cs) : ∃ A c, cs = [.slice A xs.length c] := by
  obtain ⟨A, c, rfl, _⟩ := h
  exact ⟨A, c, rfl⟩
theorem kslice_row {α : Type} {e : Nat} {D : Kd α} {w : World} {xs : List α} {A : Option Addr} {c : Nat} (h : (Kd.slice e D).K w xs [.slice A xs.length c]) : KC D A c xs w := by
  obtain ⟨A', c', he, h1, h2⟩ := h
  injection he with he _
  injection he with e1 _ e3
  subst e1 e3
  exact ⟨h2, h1⟩
theorem e_ldRR {α : Type} {e : Nat} {D : Kd α} {t : TypeId} {x : Operand} {ee : TypeId} {A : Option Addr} {l : List (List α)} {c d : Nat} {j : Int} (i : Nat) (ho : o.op = .load t x) (hd : o.dst = some d) (hn : Nat.blt d n.n = true) (ht : P.underlying t = some (.slice ee)) (hx : ev F x = some (.pointer (some (at0 A j 1)))) (hL : L[i]? = some (.f (KC (Kd.slice e D) A c l))) (h0 : 0 ≤ j) (h1 : j < (l.length : Int)) :
    OpE P n w0 I o F L (fun X => ∀ A' c', X ((d, .slice A' (l.getD j.toNat []).length c') :: F) (.f (KC D A' c' (l.getD j.toNat [])) :: L)) := by
  intro X hX a w hf htr K Q np hK
  have hst : Stab (I.holes ++ ids L) w (KC (Kd.slice e D) A c l) := htr.facts _ (List.mem_of_getElem? hL)
  obtain ⟨ad, cs, hA, hcl, hk, hcell⟩ := Kd.C_get hst.here.1 [] j h0 h1
  obtain ⟨A', c', rfl⟩ := kslice_sh hk
  have h2 : w.cell? (at0 A j 1) = some (.slice A' (l.getD j.toNat []).length c') := by
    have := hcell 0 _ rfl
    rw [hA]
    simpa [at0, Kd.slice] using this
  have hr : (execOp a.eval o).run P w = .ok (.value (.slice A' (l.getD j.toNat []).length c')) w := by
    have hag : (isAgg t).run P w = .ok false w := run_isAgg0 ht rfl w
    simp only [execOp, ho, hf.ev hx, Instr.loadAt, Instr.sureAddr, loadVar, Sem.run_bind, Sem.run_pure, Result.andThen_ok, hag, if_false, Bool.false_eq_true, run_load h2]
  unfold Oper.wp
  rw [hr, Oper.upon_value, hd]
  refine hK _ _ (hX A' c') _ _ (hf.put (blt_lt hn) _) (htr.know (fun w' ha => ?_))
  obtain ⟨ad', cs', hA', hcl', hk', hcell'⟩ := Kd.C_get (hst w' ha).1 [] j h0 h1
  obtain ⟨A2, c2, rfl⟩ := kslice_sh hk'
  have h3 : w'.cell? (at0 A j 1) = some (.slice A2 (l.getD j.toNat []).length c2) := by
    have := hcell' 0 _ rfl
    rw [hA']
    simpa [at0, Kd.slice] using this
  have h4 := stab_cell (ad := at0 A j 1) hst (fun v hv => by
    obtain ⟨ad', cs', hA', hcl', hk', hcell'⟩ := Kd.C_get hv.1 [] j h0 h1
    obtain ⟨A2, c2, rfl⟩ := kslice_sh hk'
    exact ⟨_, by have := hcell' 0 _ rfl; rw [hA']; simpa [at0, Kd.slice] using this⟩) ha
  rw [h2, h3] at h4
  injection h4 with h4
  injection h4 with e1 _ e3
  subst e1 e3
  exact kslice_row hk'
end
end Go.Eng
namespace Go.Eng
open Go.RowKit Go.Proofs.YtbonlagecjealaaW.PrintWords
set_option linter.unusedVariables false
set_option linter.unusedSimpArgs false
theorem KC_nonil {α : Type} {D : Kd α} {c : Nat} {l : List α} {w : World} (h : KC D none c l w) : l = [] := by
  by_cases h0 : 0 < l.length
  · obtain ⟨_, e, _⟩ := h.1.2.2 h0
    cases e
  · exact List.length_eq_zero_iff.1 (by omega)
section
variable {P : Program} {W : Code → (Exit → Act → World → Prop) → Act → World → Prop} {n : Sz} {w0 : World} {I : Ix} {F : FL} {L : HL} {o : Oper} {Q : Exit → Act → World → Prop}
theorem v_cap0 {c : Call} {t : TypeId} {e : TypeId} {x : Operand} {ad : Option Addr} {len cap : Nat} (ho : o.op = .call c) (hc : c.callee = .builtin .cap) (htt : c.argTypes = #[t]) (ht : P.underlying t = some (.slice e)) (hx : ev F x = some (.slice ad len cap)) (ha : c.args = #[x]) : OpV P n w0 I o F L (.int .i64 cap) := by
  intro a w hf hs
  simp [execOp, ho, resolve, hc, ha, htt, invoke, builtin, Builtin.cap_, run_underlying ht, hf.ev hx, goInt]
theorem e_appZ {t t' e : TypeId} {c : Call} {x y : Operand} {z : Value} {m bytes d : Nat} {k : Int} {kk kn : IntKind} (ho : o.op = .call c) (hc : c.callee = .builtin .append) (hca : c.args = #[x, y]) (hct : c.argTypes = #[t, t']) (hd : o.dst = some d) (hn : Nat.blt d n.n = true)
    (ht : P.underlying t = some (.slice e)) (htn : P.underlying t' = some (.int kn)) (hi : (P.info? e).map (fun i => (i.zero, i.size, i.bytes)) = some (some z, m, bytes)) (hz : z.cells.size = m) (hm : 0 < m)
    (hx : ev F x = some (.slice none 0 0)) (hy : ev F y = some (.int kk k)) (h0 : 0 < k) (hkb : k.toNat * bytes ≤ 140737488355328) (hkm : k.toNat ≤ maxLen) :
    OpE P n w0 I o F L (fun X => ∀ g cap cur, cap ≤ maxLen → cur.size = cap * m → X ((d, .slice (some ⟨g, 0, none⟩) k.toNat cap) :: F) (.b g (.cells cur e (0, 0)) :: L)) := by
  intro X hX a w hf htr K Q np hK
  obtain ⟨inf, hinf, hz'⟩ := Option.map_eq_some_iff.1 hi
  simp only [Prod.mk.injEq] at hz'
  obtain ⟨q, rfl⟩ := Int.eq_ofNat_of_zero_le (Int.le_of_lt h0)
  rw [Int.toNat_natCast] at hkb hkm hX
  have hrun := Lib.run_append_nil_zeros (P := P) w t t' o.type e inf z kk kn ht htn hinf hz'.1 q (by omega) (by omega) (by simp only [maxLen] at hkm; omega) (by rw [hz'.2.2]; omega)
  have hr : (execOp a.eval o).run P w = .ok (.value (.slice (some ⟨w.heap.size, 0, none⟩) q (grownCap w q 0 e))) (w.drew.alloc (.cells (Builtin.zeroCells z.cells q ++ Builtin.zeroCells z.cells (grownCap w q 0 e - q)) e)) := by
    simp only [execOp, ho, resolve, hc, hca, hct, Sem.run_bind, Sem.run_pure, Result.andThen_ok, invoke, builtin, List.map_toArray, List.map_cons, List.map_nil, hf.ev hx, hf.ev hy, hrun]
  have hge := grownCap_ge w q 0 e
  have hcm : grownCap w q 0 e ≤ maxLen := grownCap_le_maxLen w q 0 e hkm
  unfold Oper.wp
  rw [hr, Oper.upon_value, hd]
  refine hK _ _ (hX w.heap.size (grownCap w q 0 e) (Builtin.zeroCells z.cells q ++ Builtin.zeroCells z.cells (grownCap w q 0 e - q)) hcm ?_) _ _ (hf.put (blt_lt hn) _) ?_
  · rw [Array.size_append]
    simp only [Builtin.zeroCells, Array.size_map, Array.size_range, hz]
    rw [← Nat.add_mul]
    congr 1
    omega
  · exact htr.drew.alloc _
end
end Go.Eng
namespace Go.Eng
open Go.RowKit Go.Proofs.YtbonlagecjealaaW.PrintWords
theorem flat_map_int {k : IntKind} {xs : List Int} : xs.flatMap (fun x => [Value.int k x]) = xs.map (Value.int k) := by
  induction xs with
  | nil => rfl
  | cons x r ih => rw [List.flatMap_cons, ih]; rfl
end Go.Eng
namespace Go.Eng
open Go.RowKit Go.Proofs.YtbonlagecjealaaW.PrintWords
set_option linter.unusedVariables false
section
variable {P : Program} {W : Code → (Exit → Act → World → Prop) → Act → World → Prop} {n : Sz} {w0 : World} {I : Ix} {Q : Exit → Act → World → Prop} {F : FL} {L : HL} {S : HL} {ops : Array Oper} {fuel : Nat} {listed : Array Bool} {i : Nat}
theorem a_join {β : Type} (fuel' : Nat) (listed' : Array Bool) (Fj : β → FL) (Lj : β → HL) (hJ : ∀ b, AW P W n w0 I ops Q S fuel' listed' (Fj b) (Lj b)) (k : (∀ b, AW P W n w0 I ops Q S fuel' listed' (Fj b) (Lj b)) → AW P W n w0 I ops Q S fuel listed F L) : AW P W n w0 I ops Q S fuel listed F L := k hJ
theorem a_w (k : AW P W n w0 I ops Q S fuel listed F L) : AW P W n w0 I ops Q S fuel listed F L := k
theorem a_take {F' : FL} {L' : HL} {fuel' : Nat} {listed' : Array Bool} (k : AW P W n w0 I ops Q S fuel' listed' F' L') (idx : List Nat) (hl : listed = listed') (hfu : fuel = fuel') (hF : ∀ j v, look F' j = some v → look F j = some v) (hp : pick L idx = some L') (hi : idx.Nodup) : AW P W n w0 I ops Q S fuel listed F L := by
  subst hl hfu
  exact fun fl np a w hf ht hS => k fl np a w (hf.sub hF) (ht.pick (mem_pick hp) (pick_nodup ht.nodup hp hi)) hS
theorem i_knowT {φ : World → Prop} (hφ : ∀ w, φ w) (k : AWi P W n w0 I ops Q S fuel listed i F (.f φ :: L)) : AWi P W n w0 I ops Q S fuel listed i F L :=
  fun fl np a w hf ht hS => k fl np a w hf (ht.know (fun w' _ => hφ w')) hS
theorem i_weak {φ ψ : World → Prop} (j : Nat) (hL : L[j]? = some (.f φ)) (h : ∀ w, φ w → ψ w) (k : AWi P W n w0 I ops Q S fuel listed i F (.f ψ :: L)) : AWi P W n w0 I ops Q S fuel listed i F L :=
  fun fl np a w hf ht hS => k fl np a w hf (ht.know (fun w' ha => h w' (ht.facts _ (List.mem_of_getElem? hL) w' ha))) hS
end
end Go.Eng
