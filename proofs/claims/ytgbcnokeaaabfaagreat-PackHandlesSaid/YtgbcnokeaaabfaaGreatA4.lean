/-
Own text, put together by an own program (shake.py) out of this claim's texts: what its theorem needs of them.
-/
import Derived.Test.YtgbcnokeaaabfaaGreatA3
import Derived.Lib.AppendZeros
import Derived.Deep.Upon
import Derived.WalkSpells
import Derived.Lib.BufferMore
import Derived.OwnWalkIn
namespace Go.Eng
open Go.RowKit Go.Proofs.YtgbcnokeaaabfaaGreatW.PrintWords
set_option linter.unusedVariables false
set_option linter.unusedSimpArgs false
theorem ite_y {α : Type} {p : Prop} [Decidable p] {x y r : α} (h : p) (H : (if p then x else y) = r) : x = r := by rwa [if_pos h] at H
theorem ite_n {α : Type} {p : Prop} [Decidable p] {x y r : α} (h : ¬ p) (H : (if p then x else y) = r) : y = r := by rwa [if_neg h] at H
theorem bind_s {α β : Type} {x : Option α} {f : α → Option β} {r : β} (H : x.bind f = some r) : ∃ t, x = some t ∧ f t = some r := Option.bind_eq_some_iff.1 H
theorem none_no {α : Type} {r : α} {p : Prop} (H : (none : Option α) = some r) : p := by cases H
theorem ite_no {α : Type} {p : Prop} [Decidable p] {x : Option α} {r : α} (H : (if p then x else none) = some r) : p ∧ x = some r := by
  by_cases h : p
  · rw [if_pos h] at H; exact ⟨h, H⟩
  · rw [if_neg h] at H; cases H
theorem not_t {b : Bool} (h : b = false) : ¬ b = true := by rw [h]; decide
theorem dec_t {p : Prop} [Decidable p] (h : decide p = true) : p := of_decide_eq_true h
theorem dec_f {p : Prop} [Decidable p] (h : decide p = false) : ¬ p := of_decide_eq_false h
theorem ibeq_t {a b : Int} (h : (a == b) = true) : a = b := by simpa using h
theorem ibeq_f {a b : Int} (h : (a == b) = false) : ¬ a = b := by simpa using h
theorem ibne_t {a b : Int} (h : (a != b) = true) : ¬ a = b := by simpa using h
theorem ibne_f {a b : Int} (h : (a != b) = false) : a = b := by simpa using h
theorem bnot_t {b : Bool} (h : (!b) = true) : b = false := by simpa using h
theorem bnot_f {b : Bool} (h : (!b) = false) : b = true := by simpa using h
abbrev Ro := Option (Nat × Nat × Array Value)
def OE (e : TypeId) : Ro → Ent
  | none => .f (fun _ => True)
  | some (g, _, cur) => .b g (.cells cur e (0, 0))
def OA : Ro → Option Addr
  | none => none
  | some (g, _, _) => some ⟨g, 0, none⟩
def OC : Ro → Nat
  | none => 0
  | some (_, c, _) => c
structure Flat {α : Type} (D : Kd α) (enc : α → List Value) : Prop where
  k : ∀ w x cs, D.K w x cs ↔ cs = enc x
  one : ∀ x, ∀ u ∈ enc x, u.oneCell' = true
  len : ∀ x, (enc x).length = D.sz
  pos : 0 < D.sz
theorem flat_int (k : IntKind) : Flat (Kd.int k) (fun x => [.int k x]) :=
  ⟨fun w x cs => ⟨fun h => by simpa [Kd.int, Kd.scalar] using h, fun h => by simpa [Kd.int, Kd.scalar] using h⟩, fun x u hu => by simp at hu; subst hu; rfl, fun _ => rfl, Nat.one_pos⟩
def ORow {α : Type} (m : Nat) (enc : α → List Value) (o : Ro) (xs : List α) : Prop := match o with
  | none => xs = []
  | some (_, cap, cur) => xs.length ≤ cap ∧ cap ≤ maxLen ∧ cur.size = cap * m ∧ cur.toList.take (xs.length * m) = xs.flatMap enc
theorem ORow.nil {α : Type} {m : Nat} {enc : α → List Value} : ORow m enc none [] := rfl
theorem flatMap_len {α : Type} {enc : α → List Value} {m : Nat} (h : ∀ x, (enc x).length = m) : ∀ xs : List α, (xs.flatMap enc).length = xs.length * m
  | [] => by simp
  | x :: r => by rw [List.flatMap_cons, List.length_append, h, flatMap_len h r, List.length_cons, Nat.succ_mul]; omega
theorem reps_flat {α : Type} {D : Kd α} {enc : α → List Value} (hf : Flat D enc) {w : World} {xs : List α} {inner : List Value} : Reps (D.K w) D.sz xs inner ↔ inner = xs.flatMap enc := by
  induction xs generalizing inner with
  | nil => exact ⟨fun h => List.eq_nil_of_length_eq_zero (by rw [h.1]; simp), fun h => by subst h; exact Reps.none _ _⟩
  | cons x r ih =>
    constructor
    · intro h
      have h0 := (hf.k w x _).1 (h.2 0 x rfl)
      have h1 : Reps (D.K w) D.sz r (inner.drop D.sz) := ⟨by rw [List.length_drop, h.1, List.length_cons, Nat.succ_mul]; omega, fun i p hp => by
        have := h.2 (i + 1) p (by simpa using hp)
        rw [List.drop_drop]
        rw [Nat.succ_mul, Nat.add_comm] at this
        exact this⟩
      rw [List.flatMap_cons, ← ih.1 h1, ← h0]
      simp
    · rintro rfl
      have h1 : Reps (D.K w) D.sz r (r.flatMap enc) := ih.2 rfl
      rw [List.flatMap_cons]
      refine ⟨by rw [List.length_append, hf.len, h1.1, List.length_cons, Nat.succ_mul]; omega, fun i p hp => ?_⟩
      cases i with
      | zero =>
        obtain rfl : x = p := by simpa using hp
        rw [Nat.zero_mul, List.drop_zero, List.take_append_of_le_length (by rw [hf.len]; exact Nat.le_refl _), List.take_of_length_le (by rw [hf.len]; exact Nat.le_refl _)]
        exact (hf.k w x _).2 rfl
      | succ i =>
        have := h1.2 i p (by simpa using hp)
        have e1 : (enc x ++ r.flatMap enc).drop ((i + 1) * D.sz) = (r.flatMap enc).drop (i * D.sz) := by
          have e2 : (i + 1) * D.sz = (enc x).length + i * D.sz := by rw [hf.len, Nat.succ_mul, Nat.add_comm]
          rw [e2, List.drop_length_add_append]
        rw [e1]
        exact this
theorem KC_ofReps0 {α : Type} {d : Kd α} {g cap e : Nat} {cur : Array Value} {xs : List α} {inner : List Value} {w : World} (hg : w.heap[g]? = some (.cells cur e (0, 0))) (hr : Reps (d.K w) d.sz xs inner) (htk : cur.toList.take (xs.length * d.sz) = inner) (hc : xs.length ≤ cap) (hm : cap ≤ maxLen) : KC d (some ⟨g, 0, none⟩) cap xs w := by
  refine ⟨⟨rfl, by simp only [maxLen] at hm; omega, fun _ => ⟨_, rfl, fun j p hj => ?_⟩⟩, hc⟩
  obtain ⟨hlt, _⟩ := List.getElem?_eq_some_iff.1 hj
  have hl : (inner.drop (j * d.sz)).length ≥ d.sz := by
    rw [List.length_drop, hr.1]
    have : (j + 1) * d.sz ≤ xs.length * d.sz := Nat.mul_le_mul_right _ (by omega)
    rw [Nat.succ_mul] at this
    omega
  refine ⟨(inner.drop (j * d.sz)).take d.sz, by rw [List.length_take]; omega, hr.2 j p hj, fun q u hq => ?_⟩
  rw [List.getElem?_take] at hq
  split at hq
  · rw [List.getElem?_drop, ← htk, List.getElem?_take] at hq
    split at hq
    · have e1 : (⟨g, 0, none⟩ : Addr).add (j * d.sz + q) = ⟨g, j * d.sz + q, none⟩ := by
        unfold Addr.add; split
        · rename_i h0; rw [h0]
        · simp
      rw [e1]
      have hq' : cur[j * d.sz + q]? = some u := by simpa using hq
      simp [World.cell?, hg, hq']
    · cases hq
  · cases hq
section
variable {P : Program} {W : Code → (Exit → Act → World → Prop) → Act → World → Prop} {n : Sz} {w0 : World} {I : Ix} {F : FL} {L : HL} {o : Oper} {Q : Exit → Act → World → Prop}
theorem tri_giveO {α : Type} {D : Kd α} {enc : α → List Value} {w : World} {L' : HL} {e : TypeId} {ro : Ro} {xs : List α} (hf : Flat D enc) (hr : ORow D.sz enc ro xs) (ht : Tri w0 I w L) (idx : List Nat) (hp : pick L idx = some (OE e ro :: L')) (hi : idx.Nodup) (hI : I.own = []) : Tri w0 I w (.f (KC D (OA ro) (OC ro) xs) :: L') := by
  cases ro with
  | none =>
    rw [show xs = [] from hr]
    have h1 : Tri w0 I w L' := ht.pick (fun p hm => mem_pick hp p (List.mem_cons_of_mem _ hm)) (by
      have := pick_nodup ht.nodup hp hi
      rwa [show ids (OE e none :: L') = ids L' from ids_f _ _] at this)
    exact h1.know (fun w' _ => KC_nil D w')
  | some t =>
    obtain ⟨g, cap, cur⟩ := t
    obtain ⟨h1, h2, h3, h4⟩ := hr
    exact tri_give ht idx hp hi (by rw [hI]; simp) (fun w hg => KC_ofReps0 hg ((reps_flat hf).2 rfl) h4 h1 h2)
theorem q_giveO {α : Type} {D : Kd α} {enc : α → List Value} {ex : Exit} {L' : HL} {e : TypeId} {ro : Ro} {xs : List α} (hf : Flat D enc) (hr : ORow D.sz enc ro xs) (idx : List Nat) (hp : pick L idx = some (OE e ro :: L')) (hi : idx.Nodup) (hI : I.own = []) (k : QW P W n w0 I ex Q F (.f (KC D (OA ro) (OC ro) xs) :: L')) : QW P W n w0 I ex Q F L :=
  fun fl np a w hfr ht => k fl np a w hfr (tri_giveO hf hr ht idx hp hi hI)
theorem c_giveO {α : Type} {D : Kd α} {enc : α → List Value} {c : Code} {L' : HL} {e : TypeId} {ro : Ro} {xs : List α} (hf : Flat D enc) (hr : ORow D.sz enc ro xs) (idx : List Nat) (hp : pick L idx = some (OE e ro :: L')) (hi : idx.Nodup) (hI : I.own = []) (k : CW P W n w0 I c Q F (.f (KC D (OA ro) (OC ro) xs) :: L')) : CW P W n w0 I c Q F L :=
  fun fl np a w hfr ht => k fl np a w hfr (tri_giveO hf hr ht idx hp hi hI)
theorem ids_set_fact {L : HL} {g j : Nat} {u : Obj} (hn : (ids L).Nodup) (hg : g ∉ ids L) (hi : ∀ m q, L[j]? ≠ some (.b m q)) : (ids (L.set j (.b g u))).Nodup ∧ ∀ x ∈ ids (L.set j (.b g u)), x = g ∨ x ∈ ids L := by
  induction L generalizing j with
  | nil => exact ⟨by simp [ids], fun x hx => by simp [ids] at hx⟩
  | cons e r ih =>
    cases j with
    | zero =>
      cases e with
      | b m q => exact absurd rfl (hi m q)
      | f φ =>
        rw [ids_f] at hn hg
        rw [List.set_cons_zero, ids_b, List.nodup_cons]
        exact ⟨⟨hg, hn⟩, fun x hx => by rw [ids_f]; exact List.mem_cons.1 hx⟩
    | succ j =>
      have hi' : ∀ m q, r[j]? ≠ some (.b m q) := fun m q h => hi m q (by simpa using h)
      rw [List.set_cons_succ]
      cases e with
      | b m q =>
        rw [ids_b, List.nodup_cons] at hn
        rw [ids_b, List.mem_cons, not_or] at hg
        obtain ⟨h1, h2⟩ := ih hn.2 hg.2 hi'
        rw [ids_b, ids_b, List.nodup_cons]
        refine ⟨⟨fun hm => ?_, h1⟩, fun x hx => ?_⟩
        · rcases h2 m hm with h3 | h3
          · exact hg.1 h3.symm
          · exact hn.1 h3
        · rcases List.mem_cons.1 hx with h3 | h3
          · exact .inr (h3 ▸ List.mem_cons_self)
          · exact (h2 x h3).imp id (List.mem_cons_of_mem _)
      | f φ =>
        rw [ids_f] at hn hg
        rw [ids_f, ids_f]
        exact ih hn hg hi'
theorem tri_setNew {w : World} {g j : Nat} {u : Obj} (h : Tri w0 I w (.b g u :: L)) (hi : ∀ m q, L[j]? ≠ some (.b m q)) : Tri w0 I w (L.set j (.b g u)) := by
  have hn := h.nodup
  rw [ids_b, List.nodup_cons] at hn
  refine h.pick (fun p hp => ?_) (ids_set_fact hn.2 hn.1 hi).1
  rcases List.mem_or_eq_of_mem_set hp with h1 | h1
  · exact List.mem_cons_of_mem _ h1
  · rw [h1]; exact List.mem_cons_self
theorem Tri.appNew {w w' : World} {g : Nat} {u : Obj} (htr : Tri w0 I w L) (hbel : Below w.heap.size w w') (hgh : w'.heap[g]? = some u) (hge : w.heap.size ≤ g) : Tri w0 I w' (.b g u :: L) := by
  have h1 := htr.of_below hbel
  have hgn : g ∉ ids L := fun hm' => by have := htr.lt hm'; omega
  refine { toAgree := h1.toAgree, at_ := fun j o' hp => ?_, own := fun j hj => ?_, nodup := by rw [ids_b, List.nodup_cons]; exact ⟨hgn, h1.nodup⟩, hol := h1.hol, facts := fun φ hφ => ?_ }
  · rcases List.mem_cons.1 hp with hp | hp
    · injection hp with e1 e2; subst e1 e2; exact hgh
    · exact h1.at_ j o' hp
  · rw [ids_b] at hj
    rcases List.mem_cons.1 hj with rfl | hj
    · have := htr.size; exact .inr (by omega)
    · exact h1.own j hj
  · have hφ' : Ent.f φ ∈ L := by
      rcases List.mem_cons.1 hφ with hφ | hφ
      · cases hφ
      · exact hφ
    refine (htr.facts φ hφ').on (Agree.of_below hbel) (fun x hx hlt => ?_)
    rw [ids_b] at hx
    rcases List.mem_append.1 hx with hx | hx
    · exact List.mem_append_left _ hx
    · rcases List.mem_cons.1 hx with rfl | hx
      · omega
      · exact List.mem_append_right _ hx
theorem e_appO {α : Type} {enc : α → List Value} {t e : TypeId} {c : Call} {x y : Operand} {z : Value} {m bytes cp d i j : Nat} {b off : Nat} {cs : List Value} {ro : Ro} {xs : List α} {v : α} {ee : TypeId} (ho : o.op = .call c) (hc : c.callee = .builtin .append) (hca : c.args = #[x, y]) (hct : c.argTypes = #[t, t]) (hd : o.dst = some d) (hn : Nat.blt d n.n = true)
    (ht : P.underlying t = some (.slice e)) (hi : (P.info? e).map (fun i => (i.zero, i.size, i.bytes)) = some (some z, m, bytes)) (hz : z.cells.size = m) (hm : 0 < m)
    (hx : ev F x = some (.slice (OA ro) xs.length (OC ro))) (hLg : L[j]? = some (OE e ro)) (hr : ORow m enc ro xs)
    (hy : ev F y = some (.slice (some ⟨b, off, none⟩) 1 cp)) (hL : L[i]? = some (.b b (.cells cs.toArray ee (0, 0)))) (hnews : (cs.drop off).take (1 * m) = enc v) (hnl : (enc v).length = 1 * m) (hone : ∀ u ∈ enc v, u.oneCell' = true) (hkb : (xs.length + 1) * bytes ≤ 140737488355328) (hkm : xs.length + 1 ≤ maxLen) :
    OpE P n w0 I o F L (fun X => ∀ ro', ORow m enc ro' (xs ++ [v]) → ro'.isSome = true → X ((d, .slice (OA ro') (xs ++ [v]).length (OC ro')) :: F) (L.set j (OE e ro'))) := by
  intro X hX a w hfr htr K Q np hK
  cases ro with
  | none =>
    obtain rfl : xs = [] := hr
    refine e_app_nil (i := i) ho hc hca hct hd hn ht hi hz hm hx hy hL hnews hnl hone (by decide) (by simpa using hkb) (by simpa using hkm) (fun F' L' => ∃ g cap cur, 1 ≤ cap ∧ cap ≤ maxLen ∧ cur.size = cap * m ∧ cur.toList.take (1 * m) = enc v ∧ F' = (d, Value.slice (some ⟨g, 0, none⟩) 1 cap) :: F ∧ L' = .b g (.cells cur e (0, 0)) :: L) (fun g cap cur h1 h2 h3 h4 => ⟨g, cap, cur, h1, h2, h3, h4, rfl, rfl⟩) a w hfr htr K Q np ?_
    rintro F' L' ⟨g, cap, cur, h1, h2, h3, h4, rfl, rfl⟩ a' w' hf' ht'
    refine hK _ _ (hX (some (g, cap, cur)) ⟨h1, h2, h3, ?_⟩ rfl) a' w' hf' (tri_setNew ht' ?_)
    · show cur.toList.take (1 * m) = _
      rw [h4]; simp
    · intro p q he
      rw [hLg] at he
      cases he
  | some tt =>
    obtain ⟨g, cap, cur⟩ := tt
    obtain ⟨h1, h2, h3, h4⟩ := hr
    refine e_app (i := i) (j := j) ho hc hca hct hd hn ht hi hz hm hx hLg h1 h2 h3 h4 hy hL hnews hnl hone hkb hkm (fun F' L' => ∃ g cap cur, xs.length + 1 ≤ cap ∧ cap ≤ maxLen ∧ cur.size = cap * m ∧ cur.toList.take ((xs.length + 1) * m) = xs.flatMap enc ++ enc v ∧ F' = (d, Value.slice (some ⟨g, 0, none⟩) (xs.length + 1) cap) :: F ∧ L' = L.set j (.b g (.cells cur e (0, 0)))) (fun g cap cur h1 h2 h3 h4 => ⟨g, cap, cur, h1, h2, h3, h4, rfl, rfl⟩) a w hfr htr K Q np ?_
    rintro F' L' ⟨g, cap, cur, h1, h2, h3, h4, rfl, rfl⟩ a' w' hf' ht'
    have hl : (xs ++ [v]).length = xs.length + 1 := by simp
    refine hK _ _ (hX (some (g, cap, cur)) ⟨by rw [hl]; exact h1, h2, h3, by rw [hl, h4]; simp⟩ rfl) a' w' (by rw [hl]; exact hf') ht'
theorem e_appOK {α : Type} {D : Kd α} {enc : α → List Value} (hfl : Flat D enc) {t e : TypeId} {c : Call} {x y : Operand} {z : Value} {m bytes d i j : Nat} {ro : Ro} {xs l : List α} {B : Option Addr} {lb cb cb' : Nat} (ho : o.op = .call c) (hc : c.callee = .builtin .append) (hca : c.args = #[x, y]) (hct : c.argTypes = #[t, t]) (hd : o.dst = some d) (hn : Nat.blt d n.n = true)
    (ht : P.underlying t = some (.slice e)) (hi : (P.info? e).map (fun i => (i.zero, i.size, i.bytes)) = some (some z, m, bytes)) (hz : z.cells.size = m) (hsz : D.sz = m)
    (hx : ev F x = some (.slice (OA ro) xs.length (OC ro))) (hLg : L[j]? = some (OE e ro)) (hr : ORow m enc ro xs)
    (hy : ev F y = some (.slice B lb cb)) (hlb : lb = l.length) (hLb : L[i]? = some (.f (KC D B cb' l))) (hkb : (xs.length + l.length) * bytes ≤ 140737488355328) (hkm : xs.length + l.length ≤ maxLen) :
    OpE P n w0 I o F L (fun X => ∀ ro', ORow m enc ro' (xs ++ l) → (ro.isSome = true → ro'.isSome = true) → X ((d, .slice (OA ro') (xs ++ l).length (OC ro')) :: F) (L.set j (OE e ro'))) := by
  subst hlb hsz
  intro X hX a w hf htr K Q np hK
  obtain ⟨inf, hinf, hz'⟩ := Option.map_eq_some_iff.1 hi
  simp only [Prod.mk.injEq] at hz'
  have hst : Stab (I.holes ++ ids L) w (KC D B cb' l) := htr.facts _ (List.mem_of_getElem? hLb)
  obtain ⟨inner, hre, hcl⟩ := KC_reps hst.here
  have hin := (reps_flat hfl).1 hre
  subst hin
  have hev : ∀ u, (Builtin.append_ #[t, t] o.type #[.slice (OA ro) xs.length (OC ro), .slice B l.length cb]).run P w = u → (execOp a.eval o).run P w = u.andThen fun v w' => .ok (.value v) w' := by
    rintro _ rfl
    simp only [execOp, ho, resolve, hc, hca, hct, Sem.run_bind, Sem.run_pure, Result.andThen_ok, invoke, builtin, List.map_toArray, List.map_cons, List.map_nil, hf.ev hx, hf.ev hy]
  by_cases hb : l = []
  · subst hb
    have hle : xs.length ≤ OC ro := by
      cases ro with
      | none => rw [show xs = [] from hr]; exact Nat.le_refl _
      | some tt => obtain ⟨g, cap, cur⟩ := tt; exact hr.1
    have hrun : (Builtin.append_ #[t, t] o.type #[.slice (OA ro) xs.length (OC ro), .slice B ([] : List α).length cb]).run P w = .ok (.slice (OA ro) xs.length (OC ro)) w := by
      have h1 : ¬ (OC ro < xs.length) := by omega
      cases hA : OA ro <;> cases B <;> simp [Builtin.append_, run_underlying ht, sizeOf, typeInfo, program, Sem.run, hinf, hz'.2.1, Builtin.lenOf, Builtin.firstCells, loadCells, loadCellsFrom, storeCells, hle]
    unfold Oper.wp
    rw [hev _ hrun, Result.andThen_ok, Oper.upon_value, hd]
    have hh := hX ro (by rw [List.append_nil]; exact hr) id
    rw [List.append_nil] at hh
    refine hK _ _ hh _ _ (hf.put (blt_lt hn) _) ?_
    have hset : L.set j (OE e ro) = L := by
      apply List.ext_getElem?
      intro q
      rw [List.getElem?_set]
      split
      · rename_i e1; subst e1
        split
        · exact hLg.symm
        · rename_i h2; rw [List.getElem?_eq_none (by omega)]
      · rfl
    rw [hset]
    exact htr
  · have hbl : 0 < l.length := (by cases l with | nil => exact absurd rfl hb | cons _ _ => simp)
    obtain ⟨bd, rfl⟩ : ∃ bd, B = some bd := by obtain ⟨ad, h1, _⟩ := hst.here.1.2.2 hbl; exact ⟨ad, h1⟩
    have hone : ∀ u ∈ l.flatMap enc, u.oneCell' = true := fun u hu => by
      obtain ⟨p, _, hp⟩ := List.mem_flatMap.1 hu
      exact hfl.one p u hp
    have hnl : (l.flatMap enc).length = l.length * D.sz := flatMap_len hfl.len l
    cases ro with
    | none =>
      obtain rfl : xs = [] := hr
      have hown : w.ownsRow w.heap.size e D.sz (.slice none 0 0) 0 [] := ⟨by simp, .inl ⟨rfl, rfl⟩⟩
      obtain ⟨v', w', hrun, hrow, hgrow, hnil, hat⟩ := run_append_own_at (P := P) w w.heap.size t o.type e inf z D.sz bytes ht hinf hz'.1 hz'.2.1 hz'.2.2 hz hfl.pos _ 0 [] hown bd l.length cb (l.flatMap enc) hnl (hcl bd rfl) hone (by simpa using hkm) (by simpa using hkb) (Nat.le_refl _)
      obtain ⟨hl, hcase⟩ := hrow
      rcases hcase with ⟨rfl, h0⟩ | ⟨g', cap', cur', rfl, hge, hgh, hnc, hcm', hsz, htk⟩
      · have := (hnil.1 rfl).2; omega
      · have hrun' : (execOp a.eval o).run P w = .ok (.value (.slice (some ⟨g', 0, none⟩) (0 + l.length) cap')) w' := hev _ hrun
        unfold Oper.wp
        rw [hrun', Oper.upon_value, hd]
        have hnew : Tri w0 I w' (.b g' (.cells cur' e (0, 0)) :: L) := by
          exact htr.appNew ⟨hgrow.os, hgrow.tape, hgrow.output, hgrow.size, fun j hj => hgrow.block j hj (by simp [Value.ownBlock])⟩ hgh hge
        rw [Nat.zero_add] at htk hnc
        refine hK _ _ (hX (some (g', cap', cur')) ⟨hnc, hcm', hsz, htk⟩ (fun _ => rfl)) _ _ (by rw [Nat.zero_add]; exact hf.put (blt_lt hn) _) (tri_setNew hnew ?_)
        intro p q he
        rw [hLg] at he
        cases he
    | some tt =>
      obtain ⟨g, cap, cur⟩ := tt
      obtain ⟨h1, h2, h3, h4⟩ := hr
      have hgget := htr.toWS.get hLg
      have hown : w.ownsRow 0 e D.sz (.slice (some ⟨g, 0, none⟩) xs.length cap) xs.length (xs.flatMap enc) := ⟨flatMap_len hfl.len xs, .inr ⟨g, cap, cur, rfl, Nat.zero_le _, hgget, h1, h2, h3, h4⟩⟩
      obtain ⟨v', w', hrun, hrow, hgrow, hnil, hat⟩ := run_append_own_at (P := P) w 0 t o.type e inf z D.sz bytes ht hinf hz'.1 hz'.2.1 hz'.2.2 hz hfl.pos _ xs.length (xs.flatMap enc) hown bd l.length cb (l.flatMap enc) hnl (hcl bd rfl) hone hkm hkb (Nat.zero_le _)
      obtain ⟨hl, hcase⟩ := hrow
      rcases hcase with ⟨rfl, h0⟩ | ⟨g', cap', cur', rfl, _, hgh, hnc, hcm', hsz, htk⟩
      · have := hnil.1 rfl; cases this.1
      · have hrun' : (execOp a.eval o).run P w = .ok (.value (.slice (some ⟨g', 0, none⟩) (xs.length + l.length) cap')) w' := hev _ hrun
        unfold Oper.wp
        rw [hrun', Oper.upon_value, hd]
        have hll : (xs ++ l).length = xs.length + l.length := by simp
        refine hK _ _ (hX (some (g', cap', cur')) ⟨by rw [hll]; exact hnc, hcm', hsz, by rw [hll, htk]; simp⟩ (fun _ => rfl)) _ _ (by rw [hll]; exact hf.put (blt_lt hn) _) ?_
        exact htr.swap hLg hgrow hgh (by simp [Value.ownBlock] at hat; omega)
theorem c_join {β : Type} {c : Code} (Φ : β → Prop) (Fj : β → FL) (Lj : β → HL) (h : cK c = 1) (hJ : ∀ b, Φ b → CW P W n w0 I (cB c) Q (Fj b) (Lj b)) (k : (∀ b, Φ b → CW P W n w0 I (cB c) Q (Fj b) (Lj b)) → CW P W n w0 I (cA c) (Exit.then (fun a w => W (cB c) Q a w) Q) F L) : CW P W n w0 I c Q F L := c_seq h (k hJ)
end
end Go.Eng
namespace Go.Eng
open Go.RowKit Go.Proofs.YtgbcnokeaaabfaaGreatW.PrintWords
set_option linter.unusedVariables false
set_option linter.unusedSimpArgs false
section
variable {P : Program} {W : Code → (Exit → Act → World → Prop) → Act → World → Prop} {n : Sz} {w0 : World} {I : Ix} {F : FL} {L : HL} {o : Oper} {Q : Exit → Act → World → Prop}
theorem v_iaI {t e : TypeId} {x y : Operand} {g len cap : Nat} {kk : IntKind} {j : Int} (ho : o.op = .indexAddr t x y) (ht : P.underlying t = some (.slice e)) (hm : (P.info? e).map (·.size) = some 1) (hx : ev F x = some (.slice (some ⟨g, 0, none⟩) len cap)) (hy : ev F y = some (.int kk j)) (h0 : 0 ≤ j) (h1 : j < (len : Int)) : OpV P n w0 I o F L (.pointer (some ⟨g, j.toNat, none⟩)) :=
  v_iaO (j := j.toNat) ho ht hm hx (by rw [Int.toNat_of_nonneg h0]; exact hy) (by omega)
theorem v_ldI {k : IntKind} {t : TypeId} {x : Operand} {g : Nat} {j : Int} {xs : List Int} {rest : List Value} {e : TypeId} {fz : Nat × Nat} {D : TypeDesc} (i : Nat) (ho : o.op = .load t x) (ht : P.underlying t = some D) (hd : notAgg D = true) (hx : ev F x = some (.pointer (some ⟨g, j.toNat, none⟩))) (hL : L[i]? = some (.b g (.cells (RowI k xs rest) e fz))) (h0 : 0 ≤ j) (h1 : j < (xs.length : Int)) : OpV P n w0 I o F L (.int k (rd xs j)) :=
  v_ldO i ho ht hd hx hL (show j.toNat < xs.length by omega) (by unfold rd; rw [List.getD_eq_getElem?_getD, List.getElem?_eq_getElem (by omega)]; rfl)
theorem e_stI {k : IntKind} {t : TypeId} {x y : Operand} {g : Nat} {j : Int} {xs : List Int} {rest : List Value} {e : TypeId} {v : Int} (i : Nat) (ho : o.op = .store t x y) (hd : o.dst = none) (hm : (P.info? t).map (·.size) = some 1) (hx : ev F x = some (.pointer (some ⟨g, j.toNat, none⟩))) (hy : ev F y = some (.int k v))
    (hL : L[i]? = some (.b g (.cells (RowI k xs rest) e (0, 0)))) (h0 : 0 ≤ j) (h1 : j < (xs.length : Int)) : OpE P n w0 I o F L (fun X => X F (L.set i (.b g (.cells (RowI k (xs.set j.toNat v) rest) e (0, 0))))) :=
  e_stO i ho hd hm hx hy hL (show j.toNat < xs.length by omega)
end
end Go.Eng
namespace Go.Eng
open Go.RowKit
set_option linter.unusedVariables false
set_option linter.unusedSimpArgs false
theorem con_of_calls {P : Program} {f : FuncId} {args : Array Value} {v : Value} (h : ∀ w, Calls P f args w fun e w' => e = .returned v ∧ Below w.heap.size w w') (w0 : World) (Hs : List Nat) : Con P f args w0 Hs [] (fun X => X v []) := fun ht X hX => (h w0).mono (by
  rintro e w' ⟨rfl, hb⟩
  exact ⟨v, [], rfl, hX, ht.of_below hb⟩)
theorem and_mask (n : Int) (m : Nat) (hm : m ≤ 63) : ((BitVec.ofInt 64 n &&& BitVec.ofInt 64 (2 ^ m - 1)).toNat : Int) = n % 2 ^ m := by
  have h0 : 0 < 2 ^ m := Nat.two_pow_pos m
  have h1 : ((2 : Int) ^ m - 1) = ((2 ^ m - 1 : Nat) : Int) := by
    rw [Int.natCast_sub (by omega)]
    simp
  have h2 : 2 ^ m - 1 < 2 ^ 64 := by
    have : 2 ^ m ≤ 2 ^ 63 := Nat.pow_le_pow_right (by decide) hm
    have : (2 : Nat) ^ 63 < 2 ^ 64 := by decide
    omega
  rw [h1, BitVec.ofInt_natCast, BitVec.toNat_and, BitVec.toNat_ofNat, Nat.mod_eq_of_lt h2, Nat.and_two_pow_sub_one_eq_mod, BitVec.toNat_ofInt]
  have h3 : ((2 ^ 64 : Nat) : Int) = 2 ^ m * 2 ^ (64 - m) := by
    rw [← Int.pow_add, show m + (64 - m) = 64 by omega]
    rfl
  have h4 : 0 ≤ n % ((2 ^ 64 : Nat) : Int) := Int.emod_nonneg _ (by decide)
  rw [Int.natCast_emod, Int.toNat_of_nonneg h4, h3]
  rw [show (((2 ^ m : Nat) : Int)) = (2 : Int) ^ m by simp]
  exact Int.emod_emod_of_dvd n (Int.dvd_mul_right _ _)
theorem wu64 {n : Int} (h0 : 0 ≤ n) (h1 : n < 18446744073709551616) : IntKind.wrap .u64 n = n := by
  simp only [IntKind.wrap, IntKind.bits, IntKind.signed, Bool.false_and, Bool.false_eq_true, if_false]
  omega
theorem wi64 {n : Int} (h0 : -9223372036854775808 ≤ n) (h1 : n < 9223372036854775808) : IntKind.wrap .i64 n = n := by
  show (if (true && decide (n % 18446744073709551616 ≥ 9223372036854775808)) = true then n % 18446744073709551616 - 18446744073709551616 else n % 18446744073709551616) = n
  rw [Bool.true_and]
  by_cases h : n % 18446744073709551616 ≥ 9223372036854775808
  · rw [if_pos (decide_eq_true h)]; omega
  · rw [if_neg (by simpa using h)]; omega
theorem wrap_small (k : IntKind) (n : Int) (h0 : 0 ≤ n) (h1 : n < 9223372036854775808) (hk : k = .u64 ∨ k = .i64 := by decide) : k.wrap n = n := by
  rcases hk with rfl | rfl
  · exact wu64 h0 (by omega)
  · exact wi64 (by omega) h1
theorem and32 (y : Int) : ((BitVec.ofInt 64 y &&& BitVec.ofInt 64 4294967295).toNat : Int) = y % 4294967296 := by
  have h := and_mask y 32 (by decide)
  rw [show (2 : Int) ^ 32 - 1 = 4294967295 by decide, show (2 : Int) ^ 32 = 4294967296 by decide] at h
  exact h
theorem and30 (y : Int) : ((BitVec.ofInt 64 y &&& BitVec.ofInt 64 1073741823).toNat : Int) = y % 1073741824 := by
  have h := and_mask y 30 (by decide)
  rw [show (2 : Int) ^ 30 - 1 = 1073741823 by decide, show (2 : Int) ^ 30 = 1073741824 by decide] at h
  exact h
end Go.Eng
namespace Go.Eng
open Go.RowKit Go.Proofs.YtgbcnokeaaabfaaGreatW.PrintWords
set_option linter.unusedVariables false
set_option linter.unusedSimpArgs false
theorem orow_empty {α : Type} {m b : Nat} {enc : α → List Value} : ORow m enc (some (b, 0, #[])) ([] : List α) := ⟨by simp, by decide, by simp, by simp⟩
theorem lt_lh {xs : List Int} {N : Nat} {j : Int} (lh : xs.length = N) (h : j < (N : Int)) : j < (xs.length : Int) := by rw [lh]; exact h
theorem lh_set {xs : List Int} {N i : Nat} {v : Int} (lh : xs.length = N) : (xs.set i v).length = N := by rw [List.length_set]; exact lh
section
variable {P : Program} {W : Code → (Exit → Act → World → Prop) → Act → World → Prop} {n : Sz} {w0 : World} {I : Ix} {F : FL} {L : HL} {o : Oper} {Q : Exit → Act → World → Prop}
theorem v_slHi {t e : TypeId} {x y : Operand} {A : Option Addr} {len cap sz : Nat} {kh : IntKind} {h : Int} (ho : o.op = .slice t x none (some y) none) (ht : P.underlying t = some (.slice e)) (hsz : (P.info? e).map (·.size) = some sz) (hx : ev F x = some (.slice A len cap)) (hy : ev F y = some (.int kh h)) (h0 : 0 ≤ h) (h1 : h ≤ (cap : Int)) : OpV P n w0 I o F L (.slice A h.toNat cap) := by
  intro a w hf hs
  have ha : (A.map fun x => x.add 0) = A := by cases A <;> simp [Addr.add]
  simp [execOp, ho, hf.ev hx, hf.ev hy, Instr.sliceAt, run_underlying ht, Instr.slice, Instr.sliceBounds, Instr.sliceBound, asIntOf, h0, h1, run_size hsz, ha]
theorem v_eqSN {t t' e : TypeId} {x y : Operand} {A : Option Addr} {len cap : Nat} (ho : o.op = .binOp .eql t x y t') (ht : P.underlying t = some (.slice e)) (hx : ev F x = some (.slice A len cap)) (hy : ev F y = some (.slice none 0 0)) : OpV P n w0 I o F L (.bool A.isNone) := by
  intro a w hf hs
  have := Lib.run_eql_slice_nil (P := P) w t e A len cap 0 0 ht
  simp [execOp, ho, hf.ev hx, hf.ev hy, eqGuard, this]
theorem v_neA {t t' : TypeId} {x y : Operand} {xs ys : Array Value} {r : Bool} (ho : o.op = .binOp .neq t x y t') (hx : ev F x = some (.agg xs)) (hy : ev F y = some (.agg ys)) (hg : P.eqGuardType P.depth t = false) (he : ∀ d w, (Op.equalIn (d + 2) t (.agg xs) (.agg ys)).run P w = .ok r w) : OpV P n w0 I o F L (.bool (!r)) := by
  intro a w hf hs
  obtain ⟨d, hd⟩ := eqDepth
  simp [execOp, ho, hf.ev hx, hf.ev hy, eqGuard, binOp, hg, Op.equal, hd]
  have := he d w
  simp [this]
theorem e_makeI {t e : TypeId} {x y : Operand} {d bytes : Nat} {m : Int} {k k' kk : IntKind} (ho : o.op = .makeSlice t x y) (hd : o.dst = some d) (hn : Nat.blt d n.n = true) (ht : P.underlying t = some (.slice e)) (hi : (P.info? e).map (fun i => (i.zero, i.size, i.bytes)) = some (some (.int kk 0), 1, bytes)) (hx : ev F x = some (.int k m)) (hy : ev F y = some (.int k' m)) (h0 : 0 ≤ m) (hm : m.toNat * bytes ≤ 140737488355328) (hm' : m.toNat ≤ maxLen) :
    OpE P n w0 I o F L (fun X => ∀ g, X ((d, .slice (some ⟨g, 0, none⟩) m.toNat m.toNat) :: F) (.b g (.cells (RowI kk (List.replicate m.toNat 0) []) e (0, 0)) :: L)) := by
  intro X hX a w hf htr K Q np hK
  obtain ⟨inf, hinf, hz⟩ := Option.map_eq_some_iff.1 hi
  simp only [Prod.mk.injEq] at hz
  have hrun := run_make (P := P) w t e inf (.int kk 0) ht hinf hz.1 k k' m m h0 (Int.le_refl _) (by
    have e1 : (m.toNat : Int) = m := Int.toNat_of_nonneg h0
    have e2 : ((m.toNat * bytes : Nat) : Int) ≤ 140737488355328 := Int.ofNat_le.2 hm
    rw [Int.natCast_mul, e1, Int.mul_comm] at e2
    rw [hz.2.2]; omega) (by simp only [maxLen] at hm'; omega)
  have hc : madeCells (Value.int kk 0).cells (m.toNat * inf.size) = RowI kk (List.replicate m.toNat 0) [] := by
    rw [hz.2.1, Nat.mul_one]
    apply Array.ext
    · simp [madeCells, RowI]
    · intro i h1 h2
      have e1 : (Value.int kk 0).cells[i % (Value.int kk 0).cells.size]! = .int kk 0 := by
        have : i % (Value.int kk 0).cells.size = 0 := Nat.mod_one i
        rw [this]; rfl
      simp only [madeCells, Array.getElem_map, Array.getElem_range, e1]
      simp [RowI]
  have hr : (execOp a.eval o).run P w = .ok (.value (.slice (some ⟨w.heap.size, 0, none⟩) m.toNat m.toNat)) { w with heap := w.heap.push (.cells (RowI kk (List.replicate m.toNat 0) []) e (0, 0)) } := by
    simp only [execOp, ho, hf.ev hx, hf.ev hy, Sem.run_bind, Sem.run_pure, Result.andThen_ok, hrun]
    rw [hc]
    rfl
  unfold Oper.wp
  rw [hr, Oper.upon_value, hd]
  exact hK _ _ (hX w.heap.size) _ _ (hf.put (blt_lt hn) _) (htr.alloc _)
theorem kslice_sh {α : Type} {e : Nat} {D : Kd α} {w : World} {xs : List α} {cs : List Value} (h : (Kd.slice e D).K w xs cs) : ∃ A c, cs = [.slice A xs.length c] := by
  obtain ⟨A, c, rfl, _⟩ := h
  exact ⟨A, c, rfl⟩
theorem kslice_row {α : Type} {e : Nat} {D : Kd α} {w : World} {xs : List α} {A : Option Addr} {c : Nat} (h : (Kd.slice e D).K w xs [.slice A xs.length c]) : KC D A c xs w := by
  obtain ⟨A', c', he, h1, h2⟩ := h
  injection he with he _
  injection he with e1 _ e3
  subst e1 e3
  exact ⟨h2, h1⟩
theorem e_ldRR {α : Type} {e : Nat} {D : Kd α} {t : TypeId} {x : Operand} {ee : TypeId} {A : Option Addr} {l : List (List α)} {c d : Nat} {j : Int} (i : Nat) (ho : o.op = .load t x) (hd : o.dst = some d) (hn : Nat.blt d n.n = true) (ht : P.underlying t = some (.slice ee)) (hx : ev F x = some (.pointer (some (at0 A j 1)))) (hL : L[i]? = some (.f (KC (Kd.slice e D) A c l))) (h0 : 0 ≤ j) (h1 : j < (l.length : Int)) :
    OpE P n w0 I o F L (fun X => ∀ A' c', X ((d, .slice A' (l.getD j.toNat []).length c') :: F) (.f (KC D A' c' (l.getD j.toNat [])) :: L)) := by
  intro X hX a w hf htr K Q np hK
  have hst : Stab (I.holes ++ ids L) w (KC (Kd.slice e D) A c l) := htr.facts _ (List.mem_of_getElem? hL)
  obtain ⟨ad, cs, hA, hcl, hk, hcell⟩ := Kd.C_get hst.here.1 [] j h0 h1
  obtain ⟨A', c', rfl⟩ := kslice_sh hk
  have h2 : w.cell? (at0 A j 1) = some (.slice A' (l.getD j.toNat []).length c') := by
    have := hcell 0 _ rfl
    rw [hA]
    simpa [at0, Kd.slice] using this
  have hr : (execOp a.eval o).run P w = .ok (.value (.slice A' (l.getD j.toNat []).length c')) w := by
    have hag : (isAgg t).run P w = .ok false w := run_isAgg0 ht rfl w
    simp only [execOp, ho, hf.ev hx, Instr.loadAt, Instr.sureAddr, loadVar, Sem.run_bind, Sem.run_pure, Result.andThen_ok, hag, if_false, Bool.false_eq_true, run_load h2]
  unfold Oper.wp
  rw [hr, Oper.upon_value, hd]
  refine hK _ _ (hX A' c') _ _ (hf.put (blt_lt hn) _) (htr.know (fun w' ha => ?_))
  obtain ⟨ad', cs', hA', hcl', hk', hcell'⟩ := Kd.C_get (hst w' ha).1 [] j h0 h1
  obtain ⟨A2, c2, rfl⟩ := kslice_sh hk'
  have h3 : w'.cell? (at0 A j 1) = some (.slice A2 (l.getD j.toNat []).length c2) := by
    have := hcell' 0 _ rfl
    rw [hA']
    simpa [at0, Kd.slice] using this
  have h4 := stab_cell (ad := at0 A j 1) hst (fun v hv => by
    obtain ⟨ad', cs', hA', hcl', hk', hcell'⟩ := Kd.C_get hv.1 [] j h0 h1
    obtain ⟨A2, c2, rfl⟩ := kslice_sh hk'
    exact ⟨_, by have := hcell' 0 _ rfl; rw [hA']; simpa [at0, Kd.slice] using this⟩) ha
  rw [h2, h3] at h4
  injection h4 with h4
  injection h4 with e1 _ e3
  subst e1 e3
  exact kslice_row hk'
end
end Go.Eng
namespace Go.Eng
open Go.RowKit Go.Proofs.YtgbcnokeaaabfaaGreatW.PrintWords
set_option linter.unusedVariables false
set_option linter.unusedSimpArgs false
theorem kslice_mk {α : Type} {e : Nat} {D : Kd α} {A : Option Addr} {c : Nat} {l : List α} {w : World} (h : KC D A c l w) : (Kd.slice e D).K w l [.slice A l.length c] := ⟨A, c, rfl, h.2, h.1⟩
theorem reps1_cons {α : Type} {R : α → List Value → Prop} {x : α} {r : List α} {v : Value} {inner : List Value} (h : R x [v]) (k : Reps R 1 r inner) : Reps R 1 (x :: r) (v :: inner) := by
  refine ⟨by rw [List.length_cons, List.length_cons, k.1]; omega, fun i p hp => ?_⟩
  cases i with
  | zero => obtain rfl : x = p := by simpa using hp
            exact h
  | succ i =>
    have := k.2 i p (by simpa using hp)
    rw [Nat.mul_one] at this ⊢
    exact this
theorem KC_nonil {α : Type} {D : Kd α} {c : Nat} {l : List α} {w : World} (h : KC D none c l w) : l = [] := by
  by_cases h0 : 0 < l.length
  · obtain ⟨_, e, _⟩ := h.1.2.2 h0
    cases e
  · exact List.length_eq_zero_iff.1 (by omega)
section
variable {P : Program} {W : Code → (Exit → Act → World → Prop) → Act → World → Prop} {n : Sz} {w0 : World} {I : Ix} {F : FL} {L : HL} {o : Oper} {Q : Exit → Act → World → Prop}
theorem v_cap0 {c : Call} {t : TypeId} {e : TypeId} {x : Operand} {ad : Option Addr} {len cap : Nat} (ho : o.op = .call c) (hc : c.callee = .builtin .cap) (htt : c.argTypes = #[t]) (ht : P.underlying t = some (.slice e)) (hx : ev F x = some (.slice ad len cap)) (ha : c.args = #[x]) : OpV P n w0 I o F L (.int .i64 cap) := by
  intro a w hf hs
  simp [execOp, ho, resolve, hc, ha, htt, invoke, builtin, Builtin.cap_, run_underlying ht, hf.ev hx, goInt]
theorem e_appZ {t t' e : TypeId} {c : Call} {x y : Operand} {z : Value} {m bytes d : Nat} {k : Int} {kk kn : IntKind} (ho : o.op = .call c) (hc : c.callee = .builtin .append) (hca : c.args = #[x, y]) (hct : c.argTypes = #[t, t']) (hd : o.dst = some d) (hn : Nat.blt d n.n = true)
    (ht : P.underlying t = some (.slice e)) (htn : P.underlying t' = some (.int kn)) (hi : (P.info? e).map (fun i => (i.zero, i.size, i.bytes)) = some (some z, m, bytes)) (hz : z.cells.size = m) (hm : 0 < m)
    (hx : ev F x = some (.slice none 0 0)) (hy : ev F y = some (.int kk k)) (h0 : 0 < k) (hkb : k.toNat * bytes ≤ 140737488355328) (hkm : k.toNat ≤ maxLen) :
    OpE P n w0 I o F L (fun X => ∀ g cap cur, cap ≤ maxLen → cur.size = cap * m → X ((d, .slice (some ⟨g, 0, none⟩) k.toNat cap) :: F) (.b g (.cells cur e (0, 0)) :: L)) := by
  intro X hX a w hf htr K Q np hK
  obtain ⟨inf, hinf, hz'⟩ := Option.map_eq_some_iff.1 hi
  simp only [Prod.mk.injEq] at hz'
  obtain ⟨q, rfl⟩ := Int.eq_ofNat_of_zero_le (Int.le_of_lt h0)
  rw [Int.toNat_natCast] at hkb hkm hX
  have hrun := Lib.run_append_nil_zeros (P := P) w t t' o.type e inf z kk kn ht htn hinf hz'.1 q (by omega) (by omega) (by simp only [maxLen] at hkm; omega) (by rw [hz'.2.2]; omega)
  have hr : (execOp a.eval o).run P w = .ok (.value (.slice (some ⟨w.heap.size, 0, none⟩) q (grownCap w q 0 e))) (w.drew.alloc (.cells (Builtin.zeroCells z.cells q ++ Builtin.zeroCells z.cells (grownCap w q 0 e - q)) e)) := by
    simp only [execOp, ho, resolve, hc, hca, hct, Sem.run_bind, Sem.run_pure, Result.andThen_ok, invoke, builtin, List.map_toArray, List.map_cons, List.map_nil, hf.ev hx, hf.ev hy, hrun]
  have hge := grownCap_ge w q 0 e
  have hcm : grownCap w q 0 e ≤ maxLen := grownCap_le_maxLen w q 0 e hkm
  unfold Oper.wp
  rw [hr, Oper.upon_value, hd]
  refine hK _ _ (hX w.heap.size (grownCap w q 0 e) (Builtin.zeroCells z.cells q ++ Builtin.zeroCells z.cells (grownCap w q 0 e - q)) hcm ?_) _ _ (hf.put (blt_lt hn) _) ?_
  · rw [Array.size_append]
    simp only [Builtin.zeroCells, Array.size_map, Array.size_range, hz]
    rw [← Nat.add_mul]
    congr 1
    omega
  · exact htr.drew.alloc _
end
end Go.Eng
namespace Go.Eng
open Go.RowKit Go.Proofs.YtgbcnokeaaabfaaGreatW.PrintWords
theorem flat_map_int {k : IntKind} {xs : List Int} : xs.flatMap (fun x => [Value.int k x]) = xs.map (Value.int k) := by
  induction xs with
  | nil => rfl
  | cons x r ih => rw [List.flatMap_cons, ih]; rfl
end Go.Eng
namespace Go.Eng
open Go.RowKit Go.Proofs.YtgbcnokeaaabfaaGreatW.PrintWords
set_option linter.unusedVariables false
abbrev cfA (a b c d e f g : Int) : Array Value := #[.int .i64 a, .int .i64 b, .int .i64 c, .int .i64 d, .int .i64 e, .int .i64 f, .int .i64 g]
abbrev cfB (a b c d e f g : Int) (A : Option Addr) (n k : Nat) : Array Value := #[.int .i64 a, .int .i64 b, .int .i64 c, .int .i64 d, .int .i64 e, .int .i64 f, .int .i64 g, .slice A n k]
section
variable {P : Program} {W : Code → (Exit → Act → World → Prop) → Act → World → Prop} {n : Sz} {w0 : World} {I : Ix} {Q : Exit → Act → World → Prop} {F : FL} {L : HL} {S : HL} {ops : Array Oper} {fuel : Nat} {listed : Array Bool} {i : Nat}
theorem a_join {β : Type} (fuel' : Nat) (listed' : Array Bool) (Fj : β → FL) (Lj : β → HL) (hJ : ∀ b, AW P W n w0 I ops Q S fuel' listed' (Fj b) (Lj b)) (k : (∀ b, AW P W n w0 I ops Q S fuel' listed' (Fj b) (Lj b)) → AW P W n w0 I ops Q S fuel listed F L) : AW P W n w0 I ops Q S fuel listed F L := k hJ
theorem a_w (k : AW P W n w0 I ops Q S fuel listed F L) : AW P W n w0 I ops Q S fuel listed F L := k
theorem a_take {F' : FL} {L' : HL} {fuel' : Nat} {listed' : Array Bool} (k : AW P W n w0 I ops Q S fuel' listed' F' L') (idx : List Nat) (hl : listed = listed') (hfu : fuel = fuel') (hF : ∀ j v, look F' j = some v → look F j = some v) (hp : pick L idx = some L') (hi : idx.Nodup) : AW P W n w0 I ops Q S fuel listed F L := by
  subst hl hfu
  exact fun fl np a w hf ht hS => k fl np a w (hf.sub hF) (ht.pick (mem_pick hp) (pick_nodup ht.nodup hp hi)) hS
theorem r_ordb {c : Code} {l : List Nat} (h : cK c = 6) (hb : (noDefer (cOps c) && (List.range (cOps c).size == l)) = true) (k : SW P W n w0 I (cOps c) Q l F L) : CW P W n w0 I c Q F L := by
  rw [Bool.and_eq_true, beq_iff_eq] at hb
  exact r_ord h hb.1 hb.2 k
def okA (ops : Array Oper) (listed : Array Bool) (i : Nat) : Bool := Region.noSelect ops && (Region.free .any ops listed i && (Region.ready .any ops listed).contains i)
theorem okA_1 {ops : Array Oper} {listed : Array Bool} {i : Nat} (h : okA ops listed i = true) : Region.noSelect ops = true ∧ Region.free .any ops listed i = true ∧ (Region.ready .any ops listed).contains i = true := by
  unfold okA at h
  rw [Bool.and_eq_true, Bool.and_eq_true] at h
  exact h
theorem a_vb {d : Nat} {o : Oper} {v : Value} (i : Nat) (hi : ops[i]? = some o) (hb : okA ops listed i = true) (hg : gd ops F o = some true) (hd : o.dst = some d) (hn : Nat.blt d n.n = true) (h : OpV P n w0 I o F S v) (k : AW P W n w0 I ops Q S fuel (listed.setIfInBounds i true) ((d, v) :: F) L) : AW P W n w0 I ops Q S (fuel + 1) listed F L := a_v i hi (okA_1 hb).1 (okA_1 hb).2.1 (okA_1 hb).2.2 hg hd hn h k
theorem a_v0b {o : Oper} {v : Value} (i : Nat) (hi : ops[i]? = some o) (hb : okA ops listed i = true) (hg : gd ops F o = some true) (hd : o.dst = none) (h : OpV P n w0 I o F S v) (k : AW P W n w0 I ops Q S fuel (listed.setIfInBounds i true) F L) : AW P W n w0 I ops Q S (fuel + 1) listed F L := a_v0 i hi (okA_1 hb).1 (okA_1 hb).2.1 (okA_1 hb).2.2 hg hd h k
theorem a_nob {d : Nat} {o : Oper} (i : Nat) (hi : ops[i]? = some o) (hb : okA ops listed i = true) (hg : gd ops F o = some false) (hd : o.dst = some d) (hn : Nat.blt d n.n = true) (k : AW P W n w0 I ops Q S fuel (listed.setIfInBounds i true) ((d, undef) :: F) L) : AW P W n w0 I ops Q S (fuel + 1) listed F L := a_no i hi (okA_1 hb).1 (okA_1 hb).2.1 (okA_1 hb).2.2 hg hd hn k
theorem a_no0b {o : Oper} (i : Nat) (hi : ops[i]? = some o) (hb : okA ops listed i = true) (hg : gd ops F o = some false) (hd : o.dst = none) (k : AW P W n w0 I ops Q S fuel (listed.setIfInBounds i true) F L) : AW P W n w0 I ops Q S (fuel + 1) listed F L := a_no0 i hi (okA_1 hb).1 (okA_1 hb).2.1 (okA_1 hb).2.2 hg hd k
theorem i_give {L' : HL} {g : Nat} {o' : Obj} {φ : World → Prop} (idx : List Nat) (hp : pick L idx = some (.b g o' :: L')) (hi : idx.Nodup) (hI : g ∉ I.own) (hφ : ∀ w, w.heap[g]? = some o' → φ w) (k : AWi P W n w0 I ops Q S fuel listed i F (.f φ :: L')) : AWi P W n w0 I ops Q S fuel listed i F L :=
  fun fl np a w hf ht hS => k fl np a w hf (tri_give ht idx hp hi hI hφ) hS
theorem i_weak {φ ψ : World → Prop} (j : Nat) (hL : L[j]? = some (.f φ)) (h : ∀ w, φ w → ψ w) (k : AWi P W n w0 I ops Q S fuel listed i F (.f ψ :: L)) : AWi P W n w0 I ops Q S fuel listed i F L :=
  fun fl np a w hf ht hS => k fl np a w hf (ht.know (fun w' ha => h w' (ht.facts _ (List.mem_of_getElem? hL) w' ha))) hS
theorem i_both {φ ψ : World → Prop} (j m : Nat) (hL : L[j]? = some (.f φ)) (hM : L[m]? = some (.f ψ)) (k : AWi P W n w0 I ops Q S fuel listed i F (.f (fun w => φ w ∧ ψ w) :: L)) : AWi P W n w0 I ops Q S fuel listed i F L :=
  fun fl np a w hf ht hS => k fl np a w hf (ht.know (fun w' ha => ⟨ht.facts _ (List.mem_of_getElem? hL) w' ha, ht.facts _ (List.mem_of_getElem? hM) w' ha⟩)) hS
end
end Go.Eng
namespace Go.Eng
open Go.RowKit Go.Proofs.YtgbcnokeaaabfaaGreatW.PrintWords
set_option linter.unusedVariables false
set_option linter.unusedSimpArgs false
theorem tri_disj {w0 w : World} {I : Ix} {L Lm : HL} {i b : Nat} {o : Obj} (ht : Tri w0 I w L) (hi : L[i]? = some (.b b o)) {idx : List Nat} (hp : pick L idx = some Lm) (hn : i ∉ idx) : b ∉ ids Lm := by
  intro hm
  obtain ⟨j, hj, u, hu⟩ := pick_sub hp b hm
  exact hn (nodup_idx ht.nodup hi hu ▸ hj)
theorem pick_ids {L Lm : HL} {idx : List Nat} (hp : pick L idx = some Lm) : ∀ x ∈ ids Lm, x ∈ ids L := by
  intro x hx
  obtain ⟨i, _, o, ho⟩ := pick_sub hp x hx
  exact mem_ids.2 ⟨o, List.mem_of_getElem? ho⟩
def rng {σ R : Type} (b : (σ → Option R) → Int → Int → σ → Option R) : List (Int × Int) → (σ → Option R) → σ → Option R
  | [], κ, s => κ s
  | x :: ys, κ, s => b (fun s' => rng b ys κ s') x.1 x.2 s
theorem pre_step {α : Type} {l : List α} {pre : List {p : α // p ∈ l}} {x : {p : α // p ∈ l}} (h : pre ++ [x] <+: l.attach) : pre <+: l.attach ∧ l.drop pre.length = x.1 :: l.drop (pre.length + 1) := by
  obtain ⟨t, ht⟩ := h
  refine ⟨⟨[x] ++ t, by rw [← List.append_assoc]; exact ht⟩, ?_⟩
  have h1 : l.attach[pre.length]? = some x := by rw [← ht]; simp
  have h2 : pre.length < l.attach.length := (List.getElem?_eq_some_iff.1 h1).1
  have h3 : pre.length < l.length := by rw [List.length_attach] at h2; exact h2
  rw [List.drop_eq_getElem_cons h3]
  have h4 := (List.getElem?_eq_some_iff.1 h1).2
  rw [List.getElem_attach] at h4
  rw [← h4]
theorem rng_step {σ R : Type} {b : (σ → Option R) → Int → Int → σ → Option R} {YL : List (Int × Int)} {κ : σ → Option R} {r : R} {Good : σ → Prop} (htot : ∀ x ∈ YL, ∀ s, Good s → ∃ r', b (fun _ => some r) x.1 x.2 s = some r') (pre : List {p : Int × Int // p ∈ YL}) (x : {p : Int × Int // p ∈ YL}) (s : σ) (hg : Good s) (hI : pre <+: YL.attach → rng b (YL.drop pre.length) κ s = some r) :
    ∃ κ' r', b κ' x.1.1 x.1.2 s = some r' ∧ (∀ s', κ' s' = some r' → (pre ++ [x] <+: YL.attach → rng b (YL.drop (pre ++ [x]).length) κ s' = some r)) ∧ (pre ++ [x] <+: YL.attach → r' = r) := by
  by_cases h : pre ++ [x] <+: YL.attach
  · obtain ⟨h1, h2⟩ := pre_step h
    have h3 := hI h1
    rw [h2] at h3
    exact ⟨_, r, h3, fun s' hs _ => by rw [List.length_append, List.length_singleton]; exact hs, fun _ => rfl⟩
  · obtain ⟨r', hr⟩ := htot x.1 x.2 s hg
    exact ⟨_, r', hr, fun _ _ h' => absurd h' h, fun h' => absurd h' h⟩
theorem rng_done {σ R : Type} {b : (σ → Option R) → Int → Int → σ → Option R} {YL : List (Int × Int)} {κ : σ → Option R} {r : R} {s : σ} (hI : YL.attach <+: YL.attach → rng b (YL.drop YL.attach.length) κ s = some r) : κ s = some r := by
  have h := hI (List.prefix_refl _)
  rwa [List.length_attach, List.drop_length] at h
theorem rng_intro {σ R : Type} {b : (σ → Option R) → Int → Int → σ → Option R} {YL : List (Int × Int)} {κ : σ → Option R} {s : σ} {r : Option R} (H : rng b YL κ s = r) : ∃ κ', (∀ s, κ' s = κ s) ∧ rng b YL κ' s = r := ⟨κ, fun _ => rfl, H⟩
def DefOK (Ds : List Nat) : World → Prop := fun w => ∀ D ∈ Ds, w.heap[D]? = some (.deferred (some []))
def dsL (Ds : List Nat) : List Deferred := Ds.map fun D => { target := .collected D, args := #[] }
theorem DefOK.nil (w : World) : DefOK [] w := fun D h => by cases h
theorem DefOK.cons {D : Nat} {Ds : List Nat} {w : World} (h : w.heap[D]? = some (.deferred (some [])) ∧ DefOK Ds w) : DefOK (D :: Ds) w := fun E hE => by
  rcases List.mem_cons.1 hE with rfl | hE
  · exact h.1
  · exact h.2 E hE
theorem fresh_D {w0 : World} {I : Ix} {L : HL} {D : Nat} {Ds : List Nat} (i : Nat) (hL : L[i]? = some (.f (DefOK Ds))) (h : ∀ b, (∀ w, Tri w0 I w L → b ≤ w.heap.size) → b ≤ D) (hnd : Ds.Nodup) (hge : ∀ E ∈ Ds, w0.heap.size ≤ E) : (D :: Ds).Nodup ∧ ∀ E ∈ D :: Ds, w0.heap.size ≤ E := by
  refine ⟨List.nodup_cons.2 ⟨fun hm => ?_, hnd⟩, fun E hE => ?_⟩
  · have := h (D + 1) (fun w ht => (Array.getElem?_eq_some_iff.1 ((ht.facts _ (List.mem_of_getElem? hL)).here D hm)).1)
    omega
  · rcases List.mem_cons.1 hE with rfl | hE
    · exact h _ (fun w ht => ht.size)
    · exact hge E hE
def cellsB (L : HL) : Prop := ∀ e ∈ L, ∃ n cs t fz, e = Ent.b n (.cells cs t fz)
theorem cellsB.nil : cellsB [] := fun e h => by cases h
theorem cellsB.cons {n : Nat} {cs : Array Value} {t : TypeId} {fz : Nat × Nat} {L : HL} (h : cellsB L) : cellsB (.b n (.cells cs t fz) :: L) := fun e he => by
  rcases List.mem_cons.1 he with rfl | he
  · exact ⟨_, _, _, _, rfl⟩
  · exact h e he
section
variable {P : Program} {W : Code → (Exit → Act → World → Prop) → Act → World → Prop} {w0 : World} {I : Ix} {F : FL} {L : HL}
theorem leaves_ds {m k : Nat} {fn : Func} {a : Act} {X : Value → HL → Prop} {rs : List ResultVar} {vs : List Value} {Lb : HL} (hr : fn.results = rs.toArray) (h : RV P F Lb rs vs) (hc : cellsB Lb) (hX : X (packV vs) []) : ∀ (Ds : List Nat) (w : World), Ds.Nodup → (∀ E ∈ Ds, w0.heap.size ≤ E) → DefOK Ds w → Fr ⟨m, dsL Ds⟩ a F → Tri w0 I w Lb → LeavesInM Fence.wide k P fn a.tmps (Post X w0 I) (dsL Ds) .returning w
  | [], w, _, _, _, hf, ht => ⟨_, results_rv hr h hf ht.toWS, _, _, rfl, hX, ht.pick (fun p hp => (by cases hp)) List.nodup_nil⟩
  | D :: Ds, w, hnd, hge, hok, hf, ht => by
    have hK := hok D List.mem_cons_self
    have hlt := (Array.getElem?_eq_some_iff.1 hK).1
    have hD := hge D List.mem_cons_self
    rw [List.nodup_cons] at hnd
    refine ⟨by simp, .inl ⟨D, w.putObj D (.deferred none), rfl, run_takeDeferred hK, ?_⟩⟩
    have hne : ∀ j, j ≠ D → (w.putObj D (.deferred none)).heap[j]? = w.heap[j]? := fun j hj => by
      simp only [World.putObj]
      rw [Array.getElem?_setIfInBounds_ne (fun e => hj e.symm)]
    have hsz : (w.putObj D (.deferred none)).heap.size = w.heap.size := by simp [World.putObj]
    have hDb : ∀ n o, Ent.b n o ∈ Lb → n ≠ D := fun n o hn e => by
      obtain ⟨n', cs, t, fz, e'⟩ := hc _ hn
      injection e' with e1 e2
      have := ht.at_ n o hn
      rw [e, hK] at this
      injection this with this
      rw [e2] at this
      cases this
    have hIown : D ∉ I.own ∨ True := .inr trivial
    have ht2 : Tri w0 I (w.putObj D (.deferred none)) Lb :=
      { os := ht.os, tape := ht.tape, output := ht.output, size := by rw [hsz]; exact ht.size
        frame := fun j hj hI => (hne j (by omega)).trans (ht.frame j hj hI)
        at_ := fun n o hn => (hne n (hDb n o hn)).trans (ht.at_ n o hn)
        own := ht.own, nodup := ht.nodup
        facts := fun φ hφ => by
          obtain ⟨n, cs, t, fz, e⟩ := hc _ hφ
          cases e
        hol := ht.hol }
    have hf2 : Fr ⟨m, dsL Ds⟩ { a with defers := dsL Ds } F := ⟨hf.size, rfl, hf.at_⟩
    exact leaves_ds (m := m) (a := { a with defers := dsL Ds }) hr h hc hX Ds _ hnd.2 (fun E hE => hge E (List.mem_cons_of_mem _ hE)) (fun E hE => (hne E (fun e => hnd.1 (e ▸ hE))).trans (hok E (List.mem_cons_of_mem _ hE))) hf2 ht2
theorem q_retD {m k : Nat} {fn : Func} {X : Value → HL → Prop} {rs : List ResultVar} {vs : List Value} {e : Exit} {Ds : List Nat} {Lb : HL} (i : Nat) (hL : L[i]? = some (.f (DefOK Ds))) (hnd : Ds.Nodup) (hge : ∀ E ∈ Ds, w0.heap.size ≤ E) (idx : List Nat) (hp : pick L idx = some Lb) (hi : idx.Nodup) (hc : cellsB Lb) (he : e = .ret ∨ e = .normal) (hr : fn.results = rs.toArray) (h : RV P F Lb rs vs) (hX : X (packV vs) []) : QW P W ⟨m, dsL Ds⟩ w0 I e (PostM k P fn (Post X w0 I)) F L := by
  intro fl np a w hf ht
  have key : LeavesInM Fence.wide k P fn a.tmps (Post X w0 I) a.defers .returning w := by
    rw [hf.defers]
    exact leaves_ds hr h hc hX Ds w hnd hge ((ht.facts _ (List.mem_of_getElem? hL)).here) hf (ht.pick (mem_pick hp) (pick_nodup ht.nodup hp hi))
  rcases he with rfl | rfl <;> exact key
end
section
variable {P : Program} {W : Code → (Exit → Act → World → Prop) → Act → World → Prop} {n : Sz} {w0 : World} {I : Ix} {Q : Exit → Act → World → Prop} {F : FL} {L : HL}
def LoopAtN {σ : Type} (ns : σ → Sz) (w0 : World) (I : Ix) (Inv : σ → Prop) (μ : σ → Nat) (Fs : σ → FL) (Ls : σ → HL) (m : Nat) (a : Act) (w : World) : Prop := ∃ s, Inv s ∧ μ s = m ∧ Fr (ns s) a (Fs s) ∧ Tri w0 I w (Ls s)
theorem c_loopN {σ : Type} {c : Code} (ns : σ → Sz) (Inv : σ → Prop) (μ : σ → Nat) (Fs : σ → FL) (Ls : σ → HL) (s0 : σ) (idx : List Nat) (h : cK c = 4) (hn : ns s0 = n) (h0 : Inv s0) (hF : ∀ j v, look (Fs s0) j = some v → look F j = some v) (hp : pick L idx = some (Ls s0)) (hi : idx.Nodup)
    (hbody : ∀ s, Inv s → CW P W (ns s) w0 I (cA c) (Exit.then (fun a' w' => ∃ k, k < μ s ∧ LoopAtN ns w0 I Inv μ Fs Ls k a' w') Q) (Fs s) (Ls s)) : CW P W n w0 I c Q F L := by
  intro fl np a w hf ht
  have : c = .loop (cA c) := by cases c <;> first | (simp [cK] at h; done) | rfl | (rename_i d; cases d <;> first | rfl | (simp [cK] at h; done))
  rw [this]
  subst hn
  refine fl.loop (fun m a w => LoopAtN ns w0 I Inv μ Fs Ls m a w) (μ s0) ⟨s0, h0, rfl, hf.sub hF, ht.pick (mem_pick hp) (pick_nodup ht.nodup hp hi)⟩ ?_
  rintro m a' w' ⟨s, hs, rfl, hf', ht'⟩
  exact hbody s hs fl ⟨fun c a w h => np.1 c a w h, fun a w h => np.2 a w h⟩ a' w' hf' ht'
theorem q_againN {σ : Type} {ns : σ → Sz} {Inv : σ → Prop} {μ : σ → Nat} {Fs : σ → FL} {Ls : σ → HL} {m : Nat} (s' : σ) (idx : List Nat) (hn : ns s' = n) (hs : Inv s') (hm : μ s' < m) (hF : ∀ j v, look (Fs s') j = some v → look F j = some v) (hp : pick L idx = some (Ls s')) (hi : idx.Nodup) : QW P W n w0 I .normal (Exit.then (fun a' w' => ∃ k, k < m ∧ LoopAtN ns w0 I Inv μ Fs Ls k a' w') Q) F L := by
  subst hn
  exact fun fl np a w hf ht => ⟨μ s', hm, s', hs, rfl, hf.sub hF, ht.pick (mem_pick hp) (pick_nodup ht.nodup hp hi)⟩
end
end Go.Eng
namespace Go.Eng
open Go.RowKit
set_option linter.unusedVariables false
set_option linter.unusedSimpArgs false
theorem rowsIn_w {P : Program} {n : Nat} {row : String} {args : Array Value} {w : World} {R : Value → World → Prop} (h : Rows P row args w R) : RowsIn Fence.wide n P row args w R := by
  intro c cs _
  obtain ⟨v, w', r, s⟩ := h c cs
  exact ⟨v, w', r, stepsIn_wide.2 s⟩
theorem oper_wide {P : Program} {n : Nat} {o : Oper} {a : Act} {w : World} {K : Act → World → Prop} {Q : Exit → Act → World → Prop} (hd : ∀ c, o.op ≠ .defer c) (h : o.wp P a w K Q) : o.wpIn Fence.wide n P a w K Q := by
  refine ⟨fun _ _ => trivial, ?_⟩
  rw [Oper.semAt_eq _ _ _ hd]
  unfold Oper.wp at h
  generalize (execOp a.eval o).run P w = r at h ⊢
  cases r with
  | ok x w' =>
    cases x <;> simp only [Oper.upon] at h <;> simp only [Oper.uponIn] <;> first
      | exact h
      | exact h.elim
      | exact ⟨fun he => by simp [Fence.wide] at he, callsIn_wide.2 h⟩
      | exact ⟨fun he => by simp [Fence.wide] at he, rowsIn_w h⟩
  | halt x w' => cases x <;> simp only [Oper.upon] at h <;> simp only [Oper.uponIn] <;> first | exact h | exact h.elim
section
variable {P : Program} {m : Nat} {n : Sz} {w0 : World} {I : Ix} {F : FL} {L : HL} {o : Oper} {Q : Exit → Act → World → Prop}
def SWI (m : Nat) (P : Program) (n : Sz) (w0 : World) (I : Ix) (ops : Array Oper) (Q : Exit → Act → World → Prop) (l : List Nat) (F : FL) (L : HL) : Prop := NP Q → ∀ a w, Fr n a F → Tri w0 I w L → wpOpsIn Fence.wide m P ops Q l a w
theorem r_ordI {c : Code} {l : List Nat} (h : cK c = 6) (hl : List.range (cOps c).size = l) (k : SWI m P n w0 I (cOps c) Q l F L) : CW P (Code.wpIn Fence.wide m P) n w0 I c Q F L := by
  intro fl np a w hf ht
  have : c = .region (cId c) (cOps c) false := by cases c <;> first | (simp [cK] at h; done) | rfl | (rename_i d; cases d <;> first | rfl | (simp [cK] at h; done))
  rw [this]
  refine wpIn_region ?_
  show wpOpsIn Fence.wide m P (cOps c) Q (List.range (cOps c).size) a w
  rw [hl]
  exact k np a w hf ht
theorem si_end {ops : Array Oper} (k : QW P (Code.wpIn Fence.wide m P) n w0 I .normal Q F L) : SWI m P n w0 I ops Q [] F L := fun np a w hf ht => k (flav_wide m) np a w hf ht
theorem si_v {ops : Array Oper} {i d : Nat} {l : List Nat} {o : Oper} {v : Value} (ho : ops[i]? = some o) (hg : o.guard = none) (hdf : noDefer ops = true) (hd : o.dst = some d) (hn : Nat.blt d n.n = true) (h : OpV P n w0 I o F L v) (k : SWI m P n w0 I ops Q l ((d, v) :: F) L) : SWI m P n w0 I ops Q (i :: l) F L := by
  intro np a w hf ht
  simp only [wpOpsIn, ho]
  rw [if_pos (by simp [Region.wanted, hg])]
  refine oper_wide (noDefer_spec hdf ho) ?_
  unfold Oper.wp
  rw [h a w hf ht.toWS, Oper.upon_value, hd]
  exact k np _ _ (hf.put (blt_lt hn) v) ht
theorem si_e {ops : Array Oper} {i : Nat} {l : List Nat} {o : Oper} {C : (FL → HL → Prop) → Prop} (ho : ops[i]? = some o) (hg : o.guard = none) (hdf : noDefer ops = true) (h : OpE P n w0 I o F L C) (k : C (fun F' L' => SWI m P n w0 I ops Q l F' L')) : SWI m P n w0 I ops Q (i :: l) F L := by
  intro np a w hf ht
  simp only [wpOpsIn, ho]
  rw [if_pos (by simp [Region.wanted, hg])]
  exact oper_wide (noDefer_spec hdf ho) (h _ k a w hf ht _ _ np (fun F' L' hx a' w' hf' ht' => hx np a' w' hf' ht'))
theorem si_yield {ops : Array Oper} {i d ly : Nat} {l : List Nat} {o : Oper} {c : Call} {x : Operand} {vs : List Value} {L1 L0 : HL} (ho : ops[i]? = some o) (hg : o.guard = none) (hop : o.op = .call c) (hc : c.callee = .value x) (hx : ev F x = some (.func (.yield ly) #[] #[])) (hv : evs F c.args.toList = some vs) (hd : o.dst = some d) (hn : Nat.blt d n.n = true)
    (hY : ∀ w, Tri w0 I w L → YieldAt Fence.wide (m - 1) P ly vs.toArray w (fun e w' => (e = .returned (.bool true) ∧ Tri w0 I w' L1) ∨ (e = .returned (.bool false) ∧ Tri w' ⟨[], []⟩ w' L0)))
    (k1 : SWI m P n w0 I ops Q l ((d, .bool true) :: F) L1) (k0 : ∀ w', SWI m P n w' ⟨[], []⟩ ops Q l ((d, .bool false) :: F) L0) : SWI m P n w0 I ops Q (i :: l) F L := by
  intro np a w hf ht
  simp only [wpOpsIn, ho]
  rw [if_pos (by simp [Region.wanted, hg])]
  obtain ⟨fn, tmps, assign, body, hy, hR⟩ := hY w ht
  have e1 : c.args.map a.eval = vs.toArray := Array.toList_inj.1 (by simpa using hf.evs hv)
  refine ⟨fun _ _ => trivial, ?_⟩
  rw [Oper.semAt_eq _ _ _ (fun c' e => by rw [hop] at e; cases e)]
  have hr : (execOp a.eval o).run P w = .ok (.round ly fn tmps assign body) w := by
    simp only [execOp, hop, resolve, hc, e1, hf.ev hx, Deferred.ofValue, Sem.run_bind, Sem.run_pure, Result.andThen_ok, invoke, Array.empty_append, Array.append_empty, hy]
  rw [hr, Oper.uponIn_round]
  refine ⟨fun he => by simp [Fence.wide] at he, hR.mono ?_⟩
  rintro e w' (⟨rfl, h1⟩ | ⟨rfl, h0⟩)
  · show wpOpsIn _ _ _ _ _ _ (a.put o.dst _) w'
    rw [hd]
    exact k1 np _ _ (hf.put (blt_lt hn) _) h1
  · show wpOpsIn _ _ _ _ _ _ (a.put o.dst _) w'
    rw [hd]
    exact k0 w' np _ _ (hf.put (blt_lt hn) _) h0
end
theorem ins_enter {P : Program} {n m : Nat} {f : FuncId} {fn : Func} {c : Code} {args : Array Value} {R : Ending → World → Prop} {F0 : FL} {L : HL} {w0 w : World} {I : Ix} (hf : P.funcs[f]? = some fn) (hb : fn.body = some c) (hm : fn.ntmps = m) (ha : Nat.ble args.size m = true) (hF : enumF 0 args.toList = F0) (ht : Tri w0 I w L) (hR1 : ∀ ch w, ¬ R (.panicked ch) w) (hR2 : ∀ w, ¬ R .outgrown w) (k : CW P (Code.wpIn Fence.wide n P) ⟨m, []⟩ w0 I c (bodyPost P fn R) F0 L) : CallsIn Fence.wide n P f args w R := by
  have ha' : args.size ≤ m := by simpa using Nat.le_of_ble_eq_true ha
  subst hm hF
  refine callsIn_of_wp hf hb trivial ?_ rfl
  refine k (flav_wide n) ⟨fun ch a w hq => ?_, fun a w hq => ?_⟩ _ _ ⟨by simp; omega, rfl, fun j v hv => ?_⟩ ht
  · exact hR1 _ _ hq.2
  · exact hR2 _ hq
  · obtain ⟨_, h2⟩ := look_enumF 0 args.toList j v hv
    rw [Nat.sub_zero] at h2
    have hlt : j < args.size := by
      have := (List.getElem?_eq_some_iff.1 h2).1
      simpa using this
    show (args ++ Array.replicate (fn.ntmps - args.size) undef).getD j undef = v
    rw [Array.getD_eq_getD_getElem?, Array.getElem?_append_left hlt]
    rw [Array.getElem?_toList] at h2
    rw [h2]
    rfl
end Go.Eng
namespace Go.Eng
open Go.RowKit
set_option linter.unusedVariables false
set_option linter.unusedSimpArgs false
def encM (kk kv : IntKind) : Nat → List (Int × Int) → List MapEntry
  | _, [] => []
  | i, p :: r => { key := .int kk p.1, val := .int kv p.2, born := i } :: encM kk kv (i + 1) r
def mapO (kk kv : IntKind) (m : List (Int × Int)) : Obj := .map (encM kk kv 0 m).toArray m.length
def mput : List (Int × Int) → Int → Int → List (Int × Int)
  | [], k, v => [(k, v)]
  | p :: r, k, v => if k = p.1 then (k, v) :: r else p :: mput r k v
def mget : List (Int × Int) → Int → Option Int
  | [], _ => none
  | p :: r, k => if k = p.1 then some p.2 else mget r k
def mix : List (Int × Int) → Int → Nat → Option (Nat × Int)
  | [], _, _ => none
  | p :: r, k, i => if k = p.1 then some (i, p.2) else mix r k (i + 1)
theorem mix_get (m : List (Int × Int)) (k : Int) : ∀ i, (mix m k i).map (·.2) = mget m k := by
  induction m with
  | nil => intro i; rfl
  | cons p r ih =>
    intro i
    unfold mix mget
    split
    · rfl
    · exact ih (i + 1)
theorem findNow_encM (kk kv : IntKind) (k : Int) : ∀ (m : List (Int × Int)) (j i : Nat), Instr.findNow (.int kk) (.int kk k) (encM kk kv j m) i = some ((mix m k i).map fun p => (p.1, Value.int kv p.2))
  | [], _, _ => rfl
  | p :: r, j, i => by
    unfold encM Instr.findNow mix
    by_cases h : k = p.1
    · simp [Instr.sameNow, h]
    · have h2 : (k == p.1) = false := by simpa using h
      simp only [Instr.sameNow, if_true, h2, if_neg h]
      exact findNow_encM kk kv k r (j + 1) (i + 1)
theorem encM_put (kk kv : IntKind) (k v : Int) : ∀ (m : List (Int × Int)) (j i : Nat), (∀ p, mix m k i = some p → i ≤ p.1 ∧ (encM kk kv j m).modify (p.1 - i) (fun e => { e with key := .int kk k, val := .int kv v }) = encM kk kv j (mput m k v) ∧ (mput m k v).length = m.length ∧ ∃ e, (encM kk kv j m)[p.1 - i]? = some e ∧ e.key = .int kk k) ∧ (mix m k i = none → (encM kk kv j m) ++ [{ key := .int kk k, val := .int kv v, born := j + m.length }] = encM kk kv j (mput m k v) ∧ (mput m k v).length = m.length + 1)
  | [], j, i => ⟨fun p h => (by cases h), fun _ => ⟨(by simp [encM, mput]), rfl⟩⟩
  | q :: r, j, i => by
    obtain ⟨h1, h2⟩ := encM_put kk kv k v r (j + 1) (i + 1)
    unfold mix mput
    by_cases h : k = q.1
    · rw [if_pos h, if_pos h]
      refine ⟨fun p hp => ?_, fun hn => by cases hn⟩
      cases hp
      refine ⟨Nat.le_refl _, ?_, by simp, ?_⟩
      · simp [encM]
      · simp [encM, h]
    · rw [if_neg h, if_neg h]
      refine ⟨fun p hp => ?_, fun hn => ?_⟩
      · obtain ⟨a1, a2, a3, a4⟩ := h1 p hp
        have e : p.1 - i = (p.1 - (i + 1)) + 1 := by omega
        refine ⟨by omega, ?_, by simp [a3], ?_⟩
        · rw [e]
          unfold encM
          rw [List.modify_succ_cons, a2]
        · rw [e]
          unfold encM
          rw [List.getElem?_cons_succ]
          exact a4
      · obtain ⟨a1, a2⟩ := h2 hn
        refine ⟨?_, by simp [a2]⟩
        unfold encM
        rw [List.cons_append, List.length_cons, show j + (r.length + 1) = j + 1 + r.length by omega, a1]
section
variable {P : Program} {n : Sz} {w0 : World} {I : Ix} {F : FL} {L : HL} {o : Oper}
theorem e_mkMap {t : TypeId} {d : Nat} (kk kv : IntKind) (ho : o.op = .makeMap t none) (hd : o.dst = some d) (hn : Nat.blt d n.n = true) :
    OpE P n w0 I o F L (fun X => ∀ b, X ((d, .map (some b)) :: F) (.b b (mapO kk kv []) :: L)) := by
  intro X hX a w hf ht K Q np hK
  have hr : (execOp a.eval o).run P w = .ok (.value (.map (some w.heap.size))) { w with heap := w.heap.push (.map #[] 0) } := by
    simp [execOp, ho, Instr.makeMap, newObj, Sem.run]
  unfold Oper.wp
  rw [hr, Oper.upon_value, hd]
  exact hK _ _ (hX w.heap.size) _ _ (hf.put (blt_lt hn) _) (ht.alloc _)
theorem run_getObj {b cl : Nat} {es : Array MapEntry} {w : World} (h : w.heap[b]? = some (.map es cl)) : (getObj b).run P w = .ok (.map es cl) w := by
  simp [getObj, Sem.run, h]
theorem v_lookup {t k e : TypeId} {x y : Operand} {b : Nat} {kk kv : IntKind} {m : List (Int × Int)} {j : Int} (i : Nat) (ho : o.op = .lookup t x y true) (ht : P.underlying t = some (.map k e)) (hk : P.underlying k = some (.int kk)) (hz : (P.info? e).bind (·.zero) = some (.int kv 0)) (hx : ev F x = some (.map (some b))) (hy : ev F y = some (.int kk j)) (hL : L[i]? = some (.b b (mapO kk kv m))) :
    OpV P n w0 I o F L (.tuple #[.int kv ((mget m j).getD 0), .bool (mget m j).isSome]) := by
  intro a w hf hs
  have hg := run_getObj (P := P) (hs.get hL)
  obtain ⟨inf, hi, hzz⟩ := Option.bind_eq_some_iff.1 hz
  have hzv : (zeroValue e).run P w = .ok (.int kv 0) w := by
    unfold zeroValue typeInfo
    simp [program, Sem.run, hi, hzz]
  have hf2 := findNow_encM kk kv j m 0 0
  have hmg := mix_get m j 0
  have hck : ∀ q, (Instr.checkKey q 10000 k (.int kk j)).run P w = .ok () w := fun q => by
    unfold Instr.checkKey
    simp [run_underlying hk]
  simp only [execOp, ho, hf.ev hx, hf.ev hy, Instr.lookup, Sem.run_bind, Sem.run_pure, Result.andThen_ok, run_underlying ht, hg, mapO, hck, Instr.findKey, run_underlying hk, List.toList_toArray, hf2, Sem.run_map]
  cases hm : mix m j 0 with
  | none =>
    rw [hm] at hmg
    simp only [Option.map_none] at hmg ⊢
    simp [← hmg, hzv]
  | some p =>
    rw [hm] at hmg
    simp only [Option.map_some] at hmg ⊢
    simp [← hmg]
theorem e_mapUp {t k e : TypeId} {x y z : Operand} {b : Nat} {kk kv : IntKind} {m : List (Int × Int)} {j v : Int} (i : Nat) (ho : o.op = .mapUpdate t x y z) (hd : o.dst = none) (ht : P.underlying t = some (.map k e)) (hk : P.underlying k = some (.int kk)) (hx : ev F x = some (.map (some b))) (hy : ev F y = some (.int kk j)) (hz : ev F z = some (.int kv v)) (hL : L[i]? = some (.b b (mapO kk kv m))) :
    OpE P n w0 I o F L (fun X => X F (L.set i (.b b (mapO kk kv (mput m j v))))) := by
  intro X hX a w hf htr K Q np hK
  have hb := htr.toWS.get hL
  have hg := run_getObj (P := P) hb
  have hf2 := findNow_encM kk kv j m 0 0
  have hp := encM_put kk kv j v m 0 0
  have hlt : b < w.heap.size := (Array.getElem?_eq_some_iff.1 hb).1
  have hck : ∀ q, (Instr.checkKey q 10000 k (.int kk j)).run P w = .ok () w := fun q => by
    unfold Instr.checkKey
    simp [run_underlying hk]
  have hset : ∀ o', (setObj b o').run P w = .ok () (w.putObj b o') := fun o' => by
    have hb2 : w.heap[b]? = some (.map (encM kk kv 0 m).toArray m.length) := hb
    simp [setObj, Sem.run, World.putObj, hb2]
  have fin : (execOp a.eval o).run P w = .ok .skip (w.putObj b (mapO kk kv (mput m j v))) := by
    simp only [execOp, ho, hf.ev hx, hf.ev hy, hf.ev hz, Instr.mapUpdate, Sem.run_bind, Sem.run_pure, Result.andThen_ok, run_underlying ht, hg, mapO, hck, Instr.findKey, run_underlying hk, List.toList_toArray, hf2]
    cases hm : mix m j 0 with
    | none =>
      obtain ⟨h1, h2⟩ := hp.2 hm
      simp only [Option.map_none, hset, Result.andThen_ok, Sem.run_map]
      rw [h2, ← h1]
      simp
    | some p =>
      obtain ⟨h0, h1, h2, e1, he1, he2⟩ := hp.1 p hm
      rw [Nat.sub_zero] at h1 he1
      have hks : (Instr.keyThatStays (.int kk j) (.int kk j)).run P w = .ok (.int kk j) w := by
        simp [Instr.keyThatStays, Instr.sameBits]
      have hgk : (((encM kk kv 0 m)[p.1]?).map (·.key)).getD (.int kk j) = .int kk j := by rw [he1]; simpa using he2
      simp only [Option.map_some, List.getElem?_toArray, hgk, Sem.run_bind]
      rw [hks]
      simp only [Result.andThen_ok, hset, Sem.run_map]
      rw [h2, ← h1]
      simp [List.modify_toArray]
  unfold Oper.wp
  rw [fin, Oper.upon_skip, hd]
  refine hK _ _ hX _ _ hf (htr.setObj hL (H := w.heap.setIfInBounds b (mapO kk kv (mput m j v))) ?_ ?_ ?_)
  · simp
  · simp [hlt]
  · intro q hq
    rw [Array.getElem?_setIfInBounds_ne (fun e => hq e.symm)]
end
end Go.Eng
