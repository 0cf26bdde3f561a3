/-
Own text, put together by an own program (shake.py) out of this claim's texts: what its theorem needs of them.
-/
import Derived.Test.YtbonlagecjealaaA3
namespace Go.Eng
open Go.RowKit
set_option linter.unusedVariables false
set_option linter.unusedSimpArgs false
variable {P : Program}
theorem rowsIn_wide {l n : Nat} {row : String} {args : Array Value} {w : World} {R : Value → World → Prop} (h : Rows P row args w R) : RowsIn (Fence.wide.inRound l) n P row args w R := by
  intro c cs _
  obtain ⟨v, w', r, s⟩ := h c cs
  refine ⟨v, w', r, ?_⟩
  rw [fenced_inRound]
  exact stepsIn_wide.2 s
theorem oper_round {l n : Nat} {o : Oper} {a : Act} {w : World} {K : Act → World → Prop} {Q : Exit → Act → World → Prop} (hd : ∀ c, o.op ≠ .defer c) (h : o.wp P a w K Q) : o.wpIn (Fence.wide.inRound l) n P a w K Q := by
  refine ⟨fun _ _ => trivial, ?_⟩
  rw [Oper.semAt_eq _ _ _ hd]
  unfold Oper.wp at h
  generalize (execOp a.eval o).run P w = r at h ⊢
  cases r with
  | ok x w' =>
    cases x <;> simp only [Oper.upon] at h <;> simp only [Oper.uponIn] <;> first
      | exact h
      | exact h.elim
      | exact ⟨fun he => by simp [Fence.wide] at he, (callsIn_wide.2 h).inRound l⟩
      | exact ⟨fun he => by simp [Fence.wide] at he, rowsIn_wide h⟩
  | halt x w' => cases x <;> simp only [Oper.upon] at h <;> simp only [Oper.uponIn] <;> first | exact h | exact h.elim
theorem noDefer_spec {ops : Array Oper} (h : noDefer ops = true) {i : Nat} {o : Oper} (hi : ops[i]? = some o) : ∀ c, o.op ≠ .defer c := by
  intro c e
  have := List.all_eq_true.1 h o (by rw [Array.mem_toList_iff]; exact Array.mem_of_getElem? hi)
  rw [e] at this
  cases this
theorem ops_round {l n : Nat} {ops : Array Oper} {Q : Exit → Act → World → Prop} (np : NP Q) (hd : noDefer ops = true) : ∀ (is : List Nat) (a : Act) (w : World), wpOps P ops Q is a w → wpOpsIn (Fence.wide.inRound l) n P ops Q is a w
  | [], a, w, h => h
  | i :: r, a, w, h => by
    simp only [wpOps] at h
    simp only [wpOpsIn]
    cases ho : ops[i]? with
    | none => rw [ho] at h; exact ops_round np hd r a w h
    | some o =>
      rw [ho] at h
      dsimp only at h ⊢
      by_cases hw : Region.wanted o (yielded ops a.tmps) = true
      · rw [if_pos hw] at h ⊢
        rcases h with h | ⟨_, a', w', hq⟩
        · exact oper_round (noDefer_spec hd ho) (Oper.wp_mono (fun a w h => ops_round np hd r a w h) h)
        · exact absurd hq (np.2 _ _)
      · rw [if_neg hw] at h ⊢
        exact ⟨fun _ _ => trivial, ops_round np hd r _ w h⟩
theorem flav_round (l m : Nat) : Flav P (Code.wpIn (Fence.wide.inRound l) m P) where
  seq := wpIn_seq
  cond := wpIn_cond_split
  block := wpIn_block
  skip := wpIn_skip
  ret := wpIn_ret
  exit := wpIn_exit
  ord := fun np hd h => wpIn_region (ops_round np hd _ _ _ h)
  any := fun {i ops Q a w} np hd hm h => wpIn_region_draw fun t => by
    simp only [Region.schedule, hm, Bool.true_or, if_true]
    exact ops_round np hd _ _ _ (wpAny_sound ops.size t _ a _ h)
  loop := fun J n₀ h0 h => wpIn_loop_ghost J n₀ h0 h
theorem flav_wide (m : Nat) : Flav P (Code.wpIn Fence.wide m P) where
  seq := wpIn_seq
  cond := wpIn_cond_split
  block := wpIn_block
  skip := wpIn_skip
  ret := wpIn_ret
  exit := wpIn_exit
  ord := fun np hd h => wpIn_wide.2 ((flav_plain P).ord np hd h)
  any := fun np hd hm h => wpIn_wide.2 ((flav_plain P).any np hd hm h)
  loop := fun J n₀ h0 h => wpIn_loop_ghost J n₀ h0 h
structure KG (n₀ : Nat) (G : List Nat) (A B : World) : Prop where
  os : B.os = A.os
  tape : B.tape = A.tape
  output : B.output = A.output
  size : A.heap.size ≤ B.heap.size
  block : ∀ k, k < n₀ → k ∉ G → B.heap[k]? = A.heap[k]?
theorem KG.refl (n₀ : Nat) (G : List Nat) (A : World) : KG n₀ G A A := ⟨rfl, rfl, rfl, Nat.le_refl _, fun _ _ _ => rfl⟩
theorem KG.trans {n₀ : Nat} {G : List Nat} {A B C : World} (h : KG n₀ G A B) (k : KG n₀ G B C) : KG n₀ G A C :=
  ⟨k.os.trans h.os, k.tape.trans h.tape, k.output.trans h.output, Nat.le_trans h.size k.size, fun i hi hg => (k.block i hi hg).trans (h.block i hi hg)⟩
theorem KG.put {n₀ : Nat} {G : List Nat} (W : World) (l : Nat) (o o' : Obj) (hl : n₀ ≤ l) (hw : W.heap[l]? = some o) : KG n₀ G W (W.putObj l o') := by
  have hg := grownBy_putObj' W l o'
  exact ⟨hg.os, hg.tape, hg.output, hg.size, fun k hk _ => hg.block k (by have := (Array.getElem?_eq_some_iff.1 hw).1; omega) (fun e => by cases e; omega)⟩
def cellsOnly (L : HL) : Prop := ∀ e ∈ L, (∃ n cs t, e = Ent.b n (.cells cs t (0, 0))) ∨ e = Ent.f (fun _ => True)
theorem cellsOnly.b {L : HL} (h : cellsOnly L) {n : Nat} {o : Obj} (hm : Ent.b n o ∈ L) : ∃ cs t, o = .cells cs t (0, 0) := by
  rcases h _ hm with ⟨n', cs, t, e⟩ | e
  · injection e with e1 e2
    exact ⟨cs, t, e2⟩
  · cases e
theorem cellsOnly.f {L : HL} (h : cellsOnly L) {φ : World → Prop} (hm : Ent.f φ ∈ L) (H : List Nat) (w : World) : Stab H w φ := by
  rcases h _ hm with ⟨n', cs, t, e⟩ | e
  · cases e
  · injection e with e
    subst e
    exact fun _ _ => trivial
def toFact : Ent → Ent
  | .b n o => .f (fun w => w.heap[n]? = some o)
  | .f φ => .f φ
theorem ids_toFact (L : HL) : ids (L.map toFact) = [] := by
  induction L with
  | nil => rfl
  | cons e r ih => cases e <;> exact ih
theorem mem_toFact {L : HL} {φ : World → Prop} (h : Ent.f φ ∈ L.map toFact) : (∃ n o, Ent.b n o ∈ L ∧ φ = fun w => w.heap[n]? = some o) ∨ Ent.f φ ∈ L := by
  obtain ⟨e, he, h⟩ := List.mem_map.1 h
  cases e with
  | b n o => injection h with h; exact .inl ⟨n, o, he, h.symm⟩
  | f ψ => injection h with h; subst h; exact .inr he
def LoopW {σ : Type} (w : World) (G H : List Nat) (Inv : σ → Prop) (Li : σ → HL) (W : World) : Prop := ∃ s, Inv s ∧ Tri w ⟨G, H⟩ W (Li s)
theorem loopW_own {β σ : Type} {w : World} {G H : List Nat} (hG : ∀ g ∈ G, g < w.heap.size) {Inv : β → σ → Prop} {Li : β → σ → HL} (hc : ∀ x s, cellsOnly (Li x s)) : OwnFrom w.heap.size (fun x W => LoopW w G H (Inv x) (Li x) W) := by
  rintro x W W' row ⟨s, hs, ht⟩ hg hr
  refine ⟨s, hs, ?_⟩
  have hid : ∀ n ∈ ids (Li x s), some n ≠ row := by
    intro n hn e
    obtain ⟨hB, o, ho, hnc⟩ := hr n e.symm
    obtain ⟨u, hu⟩ := mem_ids.1 hn
    obtain ⟨cs, t, e2⟩ := (hc x s).b hu
    subst e2
    rw [ht.at_ n _ hu] at ho
    cases ho
    cases hnc
  refine { os := hg.os.trans ht.os, tape := hg.tape.trans ht.tape, output := hg.output.trans ht.output, size := Nat.le_trans ht.size hg.size, frame := fun b hb hn => ?_, at_ := fun n o hp => ?_, own := ht.own, nodup := ht.nodup, hol := ht.hol, facts := fun φ hφ => ?_ }
  · have := ht.size
    rw [hg.block b (by omega) (fun e => by have := (hr b e.symm).1; omega)]
    exact ht.frame b hb hn
  · have hm := mem_ids.2 ⟨o, hp⟩
    rw [hg.block n (ht.lt hm) (hid n hm)]
    exact ht.at_ n o hp
  · exact (hc x s).f hφ _ _
def RoundEnd {σ : Type} (W : World) (G H : List Nat) (Inv : σ → Prop) (Li : σ → HL) (InvX : Code → σ → Prop) : Exit → Act → World → Prop
  | .normal, _, W' => ∃ s, Inv s ∧ Tri W ⟨G, H⟩ W' (Li s)
  | .ret, _, W' => ∃ s, InvX .ret s ∧ Tri W ⟨G, H⟩ W' (Li s)
  | .exit i, _, W' => ∃ s, InvX (.exit i) s ∧ Tri W ⟨G, H⟩ W' (Li s)
  | _, _, _ => False
theorem np_roundEnd {σ : Type} (W : World) (G H : List Nat) (Inv : σ → Prop) (Li : σ → HL) (InvX : Code → σ → Prop) : NP (RoundEnd W G H Inv Li InvX) := ⟨fun _ _ _ h => h, fun _ _ h => h⟩
def cG : Code → Operand
  | .rangeFunc g _ _ _ => g
  | _ => .const undef
def cPs : Code → Array Tmp
  | .rangeFunc _ ps _ _ => ps
  | _ => #[]
theorem Tri.facts_of {w : World} {G H : List Nat} {W : World} {L Lr : HL} (h : Tri w ⟨G, H⟩ W L) (hf : ∀ φ, Ent.f φ ∈ Lr → Stab (H ++ G) w φ) (hb : ids Lr = []) : Tri w ⟨G, H⟩ W (L ++ Lr) := by
  have hsub : ∀ x ∈ H ++ ids L, x < w.heap.size → x ∈ H ++ G := fun x hx hlt => by
    rcases List.mem_append.1 hx with hx | hx
    · exact List.mem_append_left _ hx
    · rcases h.own x hx with h1 | h1
      · exact List.mem_append_right _ h1
      · omega
  refine { toAgree := h.toAgree, at_ := fun n o hp => ?_, own := by rw [ids_app, hb, List.append_nil]; exact h.own, nodup := by rw [ids_app, hb, List.append_nil]; exact h.nodup, hol := h.hol, facts := fun φ hφ => ?_ }
  · rcases List.mem_append.1 hp with hp | hp
    · exact h.at_ n o hp
    · have : n ∈ ids Lr := mem_ids.2 ⟨o, hp⟩
      rw [hb] at this
      cases this
  · rw [ids_app, hb, List.append_nil]
    rcases List.mem_append.1 hφ with hφ | hφ
    · exact h.facts φ hφ
    · exact (hf φ hφ).on (h.toAgree.mono (fun x hx _ => List.mem_append_right _ hx)) hsub
theorem c_rangeD {α σ : Type} {n : Sz} {w0 : World} {I : Ix} {Q : Exit → Act → World → Prop} {F : FL} {L Lm Lr : HL} {c : Code} {m gf : Nat} {fn : Func} {lb : List Value} (enc : α → Array Value) {ps : Array Tmp} {S Sp : List α → Prop} {N : Nat}
    (idxm idxr : List Nat) (Inv : List α → σ → Prop) (InvX : List α → Code → σ → Prop) (Li : σ → HL) (Fa : α → FL) (s0 : σ)
    (h : cK c = 5) (hg : ev F (cG c) = some (.func (.func gf) #[] lb.toArray)) (hps : cPs c = ps) (hps1 : ∀ x, (enc x).size = ps.size) (hm : 1 ≤ m)
    (hf : P.funcs[gf]? = some fn) (hb : fn.body.isNone = false) (hname : (fn.name == "runtime.NumGoroutine") = false)
    (hpm : pick L idxm = some Lm) (hpr : pick L idxr = some Lr) (hnd : (idxm ++ idxr).Nodup) (hcell : ∀ s, cellsOnly (Li s)) (hs0 : Inv [] s0) (hL0 : Li s0 = Lm)
    (hseq : ∀ w, Tri w0 I w L → SeqStopsK Fence.wide (m - 1) P gf lb.toArray enc (KG w.heap.size (ids Lm)) S Sp N w)
    (hassign : ∀ (l : Nat) (x : α) (a : Act) (W : World) (K : Act → World → Prop), Fr n a F → (∀ a' W', Fr ⟨n.n, []⟩ a' (Fa x ++ F) → Agree [] W W' → K a' W') → (cB c).wpIn (Fence.wide.inRound l) (m - 1 - 1) P (Exit.then K (fun _ _ _ => False)) { tmps := (ps.zip (enc x)).foldl (fun t (p, v) => t.setIfInBounds p v) a.tmps, defers := [] } W)
    (hbody : ∀ (l : Nat) (pre : List α) (x : α) (s : σ) (W : World), Inv pre s → pre.length < N → CW P (Code.wpIn (Fence.wide.inRound l) (m - 1 - 1) P) ⟨n.n, []⟩ W ⟨ids (Li s), I.holes⟩ (cA c) (RoundEnd W (ids (Li s)) I.holes (Inv (pre ++ [x])) Li (InvX (pre ++ [x]))) (Fa x ++ F) (Li s ++ Lr.map toFact))
    (hdone : ∀ (D : Nat) (xs : List α) (s : σ), (∀ b, (∀ w, Tri w0 I w L → b ≤ w.heap.size) → b ≤ D) → S xs → Inv xs s → QW P (Code.wpIn Fence.wide m P) ⟨n.n, { target := .collected D, args := #[] } :: n.ds⟩ w0 I .normal Q F (.b D (.deferred (some [])) :: Li s ++ Lr))
    (hstop : ∀ (D : Nat) (c : Code) (pre : List α) (s : σ), (∀ b, (∀ w, Tri w0 I w L → b ≤ w.heap.size) → b ≤ D) → Sp pre → InvX pre c s → CW P (Code.wpIn Fence.wide m P) ⟨n.n, { target := .collected D, args := #[] } :: n.ds⟩ w0 I c Q F (.b D (.deferred (some [])) :: Li s ++ Lr)) :
    CW P (Code.wpIn Fence.wide m P) n w0 I c Q F L := by
  intro fl np a w hfr ht
  have h12 : ∀ p ∈ Lm ++ Lr, p ∈ L := mem_pick (pick_app hpm hpr)
  have hndL := pick_nodup ht.nodup (pick_app hpm hpr) hnd
  have hnd2 := hndL
  rw [ids_app, List.nodup_append] at hnd2
  have hmL : ∀ n ∈ ids Lm, n ∈ ids L := fun n hn => by obtain ⟨o, ho⟩ := mem_ids.1 hn; exact mem_ids.2 ⟨o, h12 _ (List.mem_append_left _ ho)⟩
  have hrL : ∀ n ∈ ids Lr, n ∈ ids L := fun n hn => by obtain ⟨o, ho⟩ := mem_ids.1 hn; exact mem_ids.2 ⟨o, h12 _ (List.mem_append_right _ ho)⟩
  have hmlt : ∀ n ∈ ids Lm, n < w.heap.size := fun n hn => ht.lt (hmL n hn)
  have hfacts : ∀ φ, Ent.f φ ∈ Lr.map toFact → Stab (I.holes ++ ids Lm) w φ := by
    intro φ hφ
    rcases mem_toFact hφ with ⟨k, o, hk, rfl⟩ | hk
    · intro w' ha
      have hkr : k ∈ ids Lr := mem_ids.2 ⟨o, hk⟩
      have hget := ht.at_ k o (h12 _ (List.mem_append_right _ hk))
      refine (ha.frame k (ht.lt (hrL k hkr)) (fun hm' => ?_)).trans hget
      rcases List.mem_append.1 hm' with h1 | h1
      · have h2 := ht.hol k h1
        rcases ht.own k (hrL k hkr) with h3 | h3
        · exact h2.2 h3
        · omega
      · exact hnd2.2.2 k h1 k hkr rfl
    · exact (ht.facts φ (h12 _ (List.mem_append_right _ hk))).mono (fun x hx _ => by
        rcases List.mem_append.1 hx with hx | hx
        · exact List.mem_append_left _ hx
        · exact List.mem_append_right _ (hmL x hx))
  have hstart : Tri w ⟨ids Lm, I.holes⟩ w (Li s0) := by
    rw [hL0]
    have hh := ht.here h12 hndL
    refine { toAgree := Agree.refl _ _, at_ := hh.at_, own := hh.own, nodup := hh.nodup, facts := fun φ hφ => ?_, hol := fun n hn => ?_ }
    · exact (hcell s0).f (hL0 ▸ hφ) _ _
    · exact hh.hol n (List.mem_append_left _ hn)
  have hc : c = .rangeFunc (cG c) (cPs c) (cB c) (cA c) := by cases c <;> first | (simp [cK] at h; done) | rfl | (rename_i d; cases d <;> first | rfl | (simp [cK] at h; done))
  -- what a world behind the loop is for the caller
  have hback : ∀ (D : Nat) (s : σ) (W : World), w.heap.size ≤ D → W.heap[D]? = some (.deferred (some [])) → Tri w ⟨ids Lm, I.holes⟩ W (Li s) → Tri w0 I W (.b D (.deferred (some [])) :: Li s ++ Lr) := by
    intro D s W hD hDg htW
    have hholes : ∀ n ∈ ids Lr, n ∉ ids (Li s) := fun n hn hm' => by
      rcases htW.own n hm' with h1 | h1
      · exact hnd2.2.2 n h1 n hn rfl
      · have := ht.lt (hrL n hn); omega
    have h1 : Tri w ⟨ids Lm, I.holes ++ ids Lr⟩ W (Li s) :=
      { toAgree := htW.toAgree, at_ := htW.at_, own := htW.own, nodup := htW.nodup,
        facts := fun φ hφ => ((hcell s).f hφ _ _),
        hol := fun n hn => by
          rcases List.mem_append.1 hn with hn | hn
          · exact htW.hol n hn
          · exact ⟨ht.lt (hrL n hn), fun h2 => hnd2.2.2 n h2 n hn rfl⟩ }
    have h2 := ht.trans h12 hndL h1
    have hDn : D ∉ ids (Li s ++ Lr) := by
      rw [ids_app]
      intro hm'
      rcases List.mem_append.1 hm' with h3 | h3
      · obtain ⟨o, ho⟩ := mem_ids.1 h3
        obtain ⟨cs, t, e2⟩ := (hcell s).b ho
        rw [htW.at_ D o ho, e2] at hDg
        cases hDg
      · have := ht.lt (hrL D h3); omega
    refine { toAgree := h2.toAgree, at_ := fun k o hp => ?_, own := fun k hk => ?_, nodup := ?_, hol := h2.hol, facts := fun φ hφ => ?_ }
    · rw [List.cons_append] at hp
      rcases List.mem_cons.1 hp with hp | hp
      · injection hp with e1 e2; subst e1 e2; exact hDg
      · exact h2.at_ k o hp
    · rw [List.cons_append, ids_b] at hk
      rcases List.mem_cons.1 hk with rfl | hk
      · have := ht.size; exact .inr (by omega)
      · exact h2.own k hk
    · rw [List.cons_append, ids_b, List.nodup_cons]
      exact ⟨hDn, h2.nodup⟩
    · rw [List.cons_append] at hφ
      have hφ1 : Ent.f φ ∈ Li s ∨ Ent.f φ ∈ Lr := by
        rcases List.mem_cons.1 hφ with hφ | hφ
        · cases hφ
        · exact List.mem_append.1 hφ
      rcases hφ1 with hφ' | hφ'
      · exact (hcell s).f hφ' _ _
      rw [List.cons_append, ids_b]
      refine (ht.facts φ (h12 _ (List.mem_append_right _ hφ'))).on (htW.toAgree.mono (fun x hx _ => List.mem_append_right _ (hmL x hx))) (fun x hx hlt => ?_)
      rcases List.mem_append.1 hx with hx | hx
      · exact List.mem_append_left _ hx
      · rcases List.mem_cons.1 hx with rfl | hx
        · omega
        · rw [ids_app] at hx
          rcases List.mem_append.1 hx with hx | hx
          · rcases htW.own x hx with h3 | h3
            · exact List.mem_append_right _ (hmL x h3)
            · omega
          · exact List.mem_append_right _ (hrL x hx)
  rw [hc]
  refine wpIn_rangeFunc_ownH (I := fun pre W => LoopW w (ids Lm) I.holes (Inv pre) Li W) (Ix := fun c pre W => LoopW w (ids Lm) I.holes (InvX pre c) Li W) (Ax := fun x a' _ => Fr ⟨n.n, []⟩ a' (Fa x ++ F)) (w0 := w) rfl hm (hfr.ev hg) trivial (fun args w => run_callFunc hf hb hname args w) (hseq w ht)
    (fun h1 h2 => h1.trans h2) (fun W l o o' hl hw _ _ => KG.put W l o o' hl hw) (Below.refl _ _) (fun x => by rw [hps]; exact hps1 x)
    (loopW_own hmlt (fun _ s => hcell s)) (fun c => loopW_own hmlt (fun _ s => hcell s)) ⟨s0, hs0, hstart⟩ (fun x a' => ownFrom_pure _ (fun (_ : Unit) => Fr ⟨n.n, []⟩ a' (Fa x ++ F))) ?_ ?_ ?_ ?_
  · intro l pre x W K hI hK
    rw [hps]
    obtain ⟨s, hs, htW⟩ := hI
    exact hassign l x a W K hfr (fun a' W' ha' hag => hK a' W' ⟨hag.size, fun k o _ hk _ => (hag.frame k (Array.getElem?_eq_some_iff.1 hk).1 (by simp)).trans hk⟩
      ⟨hag.os, hag.tape, hag.output, hag.size, fun k hk _ => hag.frame k (by have := htW.size; omega) (by simp)⟩ ⟨s, hs, htW.of_below hag.below⟩ ha')
  · rintro l pre x a' W hl hr ⟨s, hs, htW⟩ ha' hlen
    have hb0 : Tri W ⟨ids (Li s), I.holes⟩ W (Li s ++ Lr.map toFact) := by
      have h1 : Tri W ⟨ids (Li s), I.holes⟩ W (Li s) :=
        { toAgree := Agree.refl _ _, at_ := htW.at_, own := fun n hn => .inl hn, nodup := htW.nodup, facts := fun φ hφ => ((hcell s).f hφ _ _),
          hol := fun n hn => by
            have h2 := htW.hol n hn
            refine ⟨Nat.lt_of_lt_of_le h2.1 htW.size, fun h3 => ?_⟩
            rcases htW.own n h3 with h4 | h4
            · exact h2.2 h4
            · omega }
      refine h1.facts_of (fun φ hφ => ?_) (ids_toFact Lr)
      refine (hfacts φ hφ).on (htW.toAgree.mono (fun x hx _ => List.mem_append_right _ hx)) (fun x hx hlt => ?_)
      rcases List.mem_append.1 hx with hx | hx
      · exact List.mem_append_left _ hx
      · rcases htW.own x hx with h3 | h3
        · exact List.mem_append_right _ h3
        · omega
    have key := hbody l pre x s W hs hlen (flav_round l _) (np_roundEnd _ _ _ _ _ _) a' W ha' hb0
    have hcomp : ∀ (W' : World) (s' : σ), Tri W ⟨ids (Li s), I.holes⟩ W' (Li s') → Tri w ⟨ids Lm, I.holes⟩ W' (Li s') ∧ KeepsFrom w.heap.size W W' ∧ KG w.heap.size (ids Lm) W W' := by
      intro W' s' h'
      have hA : Tri w ⟨ids Lm, I.holes⟩ W' (Li s' ++ []) := htW.trans (L1 := Li s) (L2 := []) (fun p hp => by simpa using hp) (by rw [List.append_nil]; exact htW.nodup) (by simpa [ids] using h')
      rw [List.append_nil] at hA
      refine ⟨hA, ⟨h'.size, fun k o _ hk ho => ?_⟩, ⟨h'.os, h'.tape, h'.output, h'.size, fun k hk hn => ?_⟩⟩
      · refine (h'.frame k (Array.getElem?_eq_some_iff.1 hk).1 (fun hm' => ?_)).trans hk
        obtain ⟨u, hu⟩ := mem_ids.1 hm'
        obtain ⟨cs, t, e2⟩ := (hcell s).b hu
        rw [htW.at_ k u hu, e2] at hk
        cases hk
        cases ho
      · refine h'.frame k (by have := htW.size; omega) (fun hm' => ?_)
        rcases htW.own k hm' with h1 | h1
        · exact hn h1
        · omega
    refine wpIn_mono key (fun e a'' W' hq => ?_)
    cases e with
    | normal => obtain ⟨s', h1, h2⟩ := hq; obtain ⟨h3, h4, h5⟩ := hcomp W' s' h2; exact ⟨h4, h5, s', h1, h3⟩
    | ret => obtain ⟨s', h1, h2⟩ := hq; obtain ⟨h3, h4, h5⟩ := hcomp W' s' h2; exact ⟨h4, s', h1, h3⟩
    | exit i => obtain ⟨s', h1, h2⟩ := hq; obtain ⟨h3, h4, h5⟩ := hcomp W' s' h2; exact ⟨h4, s', h1, h3⟩
    | goto i => exact hq.elim
    | panic ch => exact hq.elim
    | outgrown => exact hq.elim
  · rintro D xs W hD hS ⟨s, hs, htW⟩ hDg
    exact hdone D xs s (fun b hb => Nat.le_trans (hb w ht) hD) hS hs fl np _ W ⟨hfr.size, by rw [hfr.defers], hfr.at_⟩ (hback D s W hD hDg htW)
  · rintro D cx pre W hD hSp ⟨s, hs, htW⟩ hDg
    exact hstop D cx pre s (fun b hb => Nat.le_trans (hb w ht) hD) hSp hs fl np _ W ⟨hfr.size, by rw [hfr.defers], hfr.at_⟩ (hback D s W hD hDg htW)
theorem fr_params2 {n : Sz} {a : Act} {F : FL} (h : Fr n a F) {p q : Tmp} {u v : Value} (hp : Nat.blt p n.n = true) (hq : Nat.blt q n.n = true) : Fr ⟨n.n, []⟩ { tmps := ((#[p, q] : Array Tmp).zip #[u, v]).foldl (fun t (p, v) => t.setIfInBounds p v) a.tmps, defers := [] } ((q, v) :: (p, u) :: F) := by
  have h1 := ((Fr.mk (n := ⟨n.n, []⟩) (a := { a with defers := [] }) h.size rfl h.at_).put (blt_lt hp) u).put (blt_lt hq) v
  have e : ((#[p, q] : Array Tmp).zip #[u, v]).foldl (fun t (p, v) => t.setIfInBounds p v) a.tmps = (a.tmps.setIfInBounds p u).setIfInBounds q v := by simp
  rw [e]
  exact h1
theorem q_assigned {W : Code → (Exit → Act → World → Prop) → Act → World → Prop} {n : Sz} {w0 : World} {F F1 : FL} {L : HL} (hs : ∀ j v, look F1 j = some v → look F j = some v) : QW P W n w0 ⟨[], []⟩ .normal (Exit.then (fun a' w' => Fr n a' F1 ∧ Agree [] w0 w') (fun _ _ _ => False)) F L := fun _ _ a w hf ht => ⟨hf.sub hs, ht.toAgree⟩
theorem q_round {σ : Type} {V : Code → (Exit → Act → World → Prop) → Act → World → Prop} {n : Sz} {W0 : World} {G H : List Nat} {Inv : σ → Prop} {Li : σ → HL} {InvX : Code → σ → Prop} {F : FL} {L L' : HL} (s' : σ) (idx : List Nat) (hp : pick L idx = some L') (hL : L' = Li s') (hi : idx.Nodup) (hs : Inv s') : QW P V n W0 ⟨G, H⟩ .normal (RoundEnd W0 G H Inv Li InvX) F L :=
  fun _ _ a w hf ht => ⟨s', hs, hL ▸ ht.pick (mem_pick hp) (pick_nodup ht.nodup hp hi)⟩
theorem q_round_ret {σ : Type} {V : Code → (Exit → Act → World → Prop) → Act → World → Prop} {n : Sz} {W0 : World} {G H : List Nat} {Inv : σ → Prop} {Li : σ → HL} {InvX : Code → σ → Prop} {F : FL} {L L' : HL} (s' : σ) (idx : List Nat) (hp : pick L idx = some L') (hL : L' = Li s') (hi : idx.Nodup) (hs : InvX .ret s') : QW P V n W0 ⟨G, H⟩ .ret (RoundEnd W0 G H Inv Li InvX) F L :=
  fun _ _ a w hf ht => ⟨s', hs, hL ▸ ht.pick (mem_pick hp) (pick_nodup ht.nodup hp hi)⟩
theorem q_all {W : Code → (Exit → Act → World → Prop) → Act → World → Prop} {n : Sz} {w0 : World} {I : Ix} {Q : Exit → Act → World → Prop} {F : FL} {L : HL} {e : Exit} (h : ∀ a w, Fr n a F → Tri w0 I w L → Q e a w) : QW P W n w0 I e Q F L := fun _ _ a w hf ht => h a w hf ht
theorem assign_one {l m : Nat} {n : Sz} {F F1 : FL} {c : Code} {W : World} {K : Act → World → Prop} {a : Act} (hf : Fr n a F) (hk : ∀ a' W', Fr n a' F1 → Agree [] W W' → K a' W') (h : CW P (Code.wpIn (Fence.wide.inRound l) m P) n W ⟨[], []⟩ c (Exit.then (fun a' w' => Fr n a' F1 ∧ Agree [] W w') (fun _ _ _ => False)) F []) : c.wpIn (Fence.wide.inRound l) m P (Exit.then K (fun _ _ _ => False)) a W := by
  refine wpIn_mono (h (flav_round l m) ⟨fun _ _ _ h => h, fun _ _ h => h⟩ a W hf (Tri.nil W)) (fun e a' w' hq => ?_)
  cases e with
  | normal => exact hk a' w' hq.1 hq.2
  | _ => exact hq
inductive RV (P : Program) (F : FL) (L : HL) : List ResultVar → List Value → Prop where
  | nil : RV P F L [] []
  | tmp {t : Tmp} {r : List ResultVar} {v : Value} {vs : List Value} : look F t = some v → RV P F L r vs → RV P F L (.tmp t :: r) (v :: vs)
  | cell {x : Tmp} {t : TypeId} {d : TypeDesc} {b off : Nat} {cs : Array Value} {e : TypeId} {fz : Nat × Nat} {r : List ResultVar} {v : Value} {vs : List Value} (i : Nat) : look F x = some (.pointer (some ⟨b, off, none⟩)) → P.underlying t = some d → notAgg d = true → L[i]? = some (.b b (.cells cs e fz)) → cs[off]? = some v → RV P F L r vs → RV P F L (.cell x t :: r) (v :: vs)
  | agg {x : Tmp} {t : TypeId} {d : TypeDesc} {b off m : Nat} {cs : Array Value} {e : TypeId} {fz : Nat × Nat} {r : List ResultVar} {vs : List Value} (us : List Value) (i : Nat) : look F x = some (.pointer (some ⟨b, off, none⟩)) → P.underlying t = some d → notAgg d = false → (P.info? t).map (·.size) = some m → L[i]? = some (.b b (.cells cs e fz)) → us.length = m → (cs.toList.drop off).take m = us → RV P F L r vs → RV P F L (.cell x t :: r) (.agg us.toArray :: vs)
theorem results_rv {fn : Func} {n : Sz} {a : Act} {w0 w : World} {I : Ix} {F : FL} {L : HL} {rs : List ResultVar} {vs : List Value} (hr : fn.results = rs.toArray) (h : RV P F L rs vs) (hf : Fr n a F) (hw : WS w0 I w L) : (results fn a.tmps).run P w = .ok (packV vs) w := by
  have key : ∀ {rs : List ResultVar} {vs : List Value}, RV P F L rs vs → (rs.mapM (m := Sem) fun | .tmp t => pure (a.tmps.getD t undef) | .cell x t => do loadVar t (← asAddr (a.tmps.getD x undef))).run P w = .ok vs w := by
    intro rs vs h
    induction h with
    | nil => simp
    | tmp h1 _ ih =>
      simp only [List.mapM_cons, Sem.run_bind, Sem.run_pure, Result.andThen_ok, hf.at_ _ _ h1, ih]
    | @cell x t d b off cs e fz r v vs i h1 ht hd hL hc _ ih =>
      have hcell := (hw.cell hL _).trans hc
      have hone : (do loadVar t (← asAddr (a.tmps.getD x undef)) : Sem Value).run P w = .ok v w := by
        simp only [Sem.run_bind, Sem.run_pure, Result.andThen_ok, hf.at_ _ _ h1, asAddr, loadVar, run_isAgg0 ht hd, if_false, Bool.false_eq_true, run_load hcell]
      rw [List.mapM_cons, Sem.run_bind]
      refine (congrArg (fun r => Result.andThen r _) hone).trans ?_
      simp only [Sem.run_bind, Sem.run_pure, Result.andThen_ok, ih]
    | @agg x t d b off m cs e fz r vs us i h1 ht hd hm hL hl hc _ ih =>
      have h2 : ∀ j v, us[j]? = some v → w.cell? ⟨b, off + j, none⟩ = some v := by
        intro j v hv
        rw [hw.cell hL]
        rw [← hc, List.getElem?_take] at hv
        split at hv
        · rw [List.getElem?_drop] at hv
          simpa using hv
        · cases hv
      have h3 := run_cells (P := P) (w := w) h2
      rw [hl] at h3
      have hone : (do loadVar t (← asAddr (a.tmps.getD x undef)) : Sem Value).run P w = .ok (.agg us.toArray) w := by
        simp only [Sem.run_bind, Sem.run_pure, Result.andThen_ok, hf.at_ _ _ h1, asAddr, loadVar, run_isAgg1 ht hd, if_true, run_size hm, h3]
      rw [List.mapM_cons, Sem.run_bind]
      refine (congrArg (fun r => Result.andThen r _) hone).trans ?_
      simp only [Sem.run_bind, Sem.run_pure, Result.andThen_ok, ih]
  have k := key h
  have hm : (fn.results.mapM (m := Sem) fun | .tmp t => pure (a.tmps.getD t undef) | .cell x t => do loadVar t (← asAddr (a.tmps.getD x undef))).run P w = .ok vs.toArray w := by
    rw [hr]
    simp only [List.mapM_toArray, Sem.run_map, k, Result.andThen_ok]
  unfold results
  rw [Sem.run_bind]
  refine (congrArg (fun r => Result.andThen r _) hm).trans ?_
  simp only [Result.andThen_ok]
  match vs with
  | [] => simp [packV]
  | [v] => simp [packV]
  | u :: v :: r => simp [packV]
def PostM (k : Nat) (P : Program) (fn : Func) (R : Ending → World → Prop) : Exit → Act → World → Prop
  | .normal, a, w => LeavesInM Fence.wide k P fn a.tmps R a.defers .returning w
  | .ret, a, w => LeavesInM Fence.wide k P fn a.tmps R a.defers .returning w
  | _, _, _ => False
section
variable {W : Code → (Exit → Act → World → Prop) → Act → World → Prop} {w0 : World} {I : Ix} {F : FL} {L : HL}
theorem q_ret {m : Nat} {fn : Func} {X : Value → HL → Prop} {rs : List ResultVar} {vs : List Value} (hr : fn.results = rs.toArray) (h : RV P F L rs vs) {L' : HL} (idx : List Nat) (hp : pick L idx = some L') (hi : idx.Nodup) (hX : X (packV vs) L') : QW P W ⟨m, []⟩ w0 I .ret (bodyPost P fn (Post X w0 I)) F L :=
  fun fl np a w hf ht => ⟨hf.defers, _, results_rv hr h hf ht.toWS, _, _, rfl, hX, ht.pick (mem_pick hp) (pick_nodup ht.nodup hp hi)⟩
theorem q_retM {m k : Nat} {fn : Func} {X : Value → HL → Prop} {rs : List ResultVar} {vs : List Value} {e : Exit} (he : e = .ret ∨ e = .normal) (hr : fn.results = rs.toArray) (h : RV P F L rs vs) {L' : HL} (idx : List Nat) (hp : pick L idx = some L') (hi : idx.Nodup) (hX : X (packV vs) L') : QW P W ⟨m, []⟩ w0 I e (PostM k P fn (Post X w0 I)) F L := by
  intro fl np a w hf ht
  have key : LeavesInM Fence.wide k P fn a.tmps (Post X w0 I) a.defers .returning w := by
    rw [hf.defers]
    exact ⟨_, results_rv hr h hf ht.toWS, _, _, rfl, hX, ht.pick (mem_pick hp) (pick_nodup ht.nodup hp hi)⟩
  rcases he with rfl | rfl <;> exact key
theorem q_retM1 {m k D : Nat} {fn : Func} {X : Value → HL → Prop} {rs : List ResultVar} {vs : List Value} {e : Exit} (he : e = .ret ∨ e = .normal) (hr : fn.results = rs.toArray) (h : RV P F L rs vs) {L' : HL} (idx : List Nat) (hp : pick L idx = some L') (hi : idx.Nodup) (hX : X (packV vs) L') : QW P W ⟨m, [{ target := .collected D, args := #[] }]⟩ w0 I e (PostM k P fn (Post X w0 I)) F (.b D (.deferred (some [])) :: L) := by
  intro fl np a w hf ht
  have hK : w.heap[D]? = some (.deferred (some [])) := ht.at_ D _ List.mem_cons_self
  have hlt := (Array.getElem?_eq_some_iff.1 hK).1
  have ht1 : Tri w0 I (w.putObj D (.deferred none)) (.b D (.deferred none) :: L) := by
    have hg := grownBy_putObj' w D (.deferred none)
    exact ht.setObj (i := 0) (o := .deferred (some [])) rfl (H := (w.putObj D (.deferred none)).heap) (by simp [World.putObj]) (by simp [World.putObj, hlt]) (fun j hj => by
      simp only [World.putObj]
      rw [Array.getElem?_setIfInBounds_ne (fun e => hj e.symm)])
  have ht2 : Tri w0 I (w.putObj D (.deferred none)) L := ht1.pick (fun p hp => List.mem_cons_of_mem _ hp) (by have := ht1.nodup; rw [ids_b, List.nodup_cons] at this; exact this.2)
  have key : LeavesInM Fence.wide k P fn a.tmps (Post X w0 I) a.defers .returning w := by
    rw [hf.defers]
    refine ⟨by simp, .inl ⟨_, _, rfl, run_takeDeferred hK, ?_⟩⟩
    exact ⟨_, results_rv hr h hf ht2.toWS, _, _, rfl, hX, ht2.pick (mem_pick hp) (pick_nodup ht2.nodup hp hi)⟩
  rcases he with rfl | rfl <;> exact key
theorem con_enterM {H : List Nat} {c : Code} {k : Nat} {f : FuncId} {fn : Func} {args : Array Value} {C : (Value → HL → Prop) → Prop} (hf : P.funcs[f]? = some fn) (hb : fn.body = some c) {m : Nat} (hm : fn.ntmps = m) (ha : Nat.ble args.size m = true) {F0 : FL} (hF : enumF 0 args.toList = F0)
    (kk : ∀ X, C X → Tri w0 ⟨ids L, H⟩ w0 L → CW P (Code.wpIn Fence.wide k P) ⟨m, []⟩ w0 ⟨ids L, H⟩ c (PostM k P fn (Post X w0 ⟨ids L, H⟩)) F0 L) : Con P f args w0 H L C := by
  intro ht X hX
  have ha' : args.size ≤ m := by simpa using Nat.le_of_ble_eq_true ha
  subst hm hF
  refine (callsIn_wide (n := k)).1 (callsIn_of_wp_marks hf hb trivial (wpIn_mono (kk X hX ht (flav_wide k) ⟨fun _ _ _ h => h, fun _ _ h => h⟩ _ _ ⟨by simp; omega, rfl, fun j v hv => ?_⟩ ht) (fun e a w hq => by cases e <;> first | exact hq | exact hq.elim)) rfl)
  · obtain ⟨_, h2⟩ := look_enumF 0 args.toList j v hv
    rw [Nat.sub_zero] at h2
    have hlt : j < args.size := by
      have := (List.getElem?_eq_some_iff.1 h2).1
      simpa using this
    show (args ++ Array.replicate (fn.ntmps - args.size) undef).getD j undef = v
    rw [Array.getD_eq_getD_getElem?, Array.getElem?_append_left hlt]
    rw [Array.getElem?_toList] at h2
    rw [h2]
    rfl
end
end Go.Eng
