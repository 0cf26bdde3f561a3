/-
Own text, put together by an own program (shake.py) out of this claim's texts: what its theorem needs of them.
-/
import Derived.Test.YtbonlagecjealaaA12
namespace Go.Eng
open Go.RowKit Go.Proofs.YtbonlagecjealaaW.PrintWords
set_option linter.unusedVariables false
set_option linter.unusedSimpArgs false
theorem tri_disj {w0 w : World} {I : Ix} {L Lm : HL} {i b : Nat} {o : Obj} (ht : Tri w0 I w L) (hi : L[i]? = some (.b b o)) {idx : List Nat} (hp : pick L idx = some Lm) (hn : i ∉ idx) : b ∉ ids Lm := by
  intro hm
  obtain ⟨j, hj, u, hu⟩ := pick_sub hp b hm
  exact hn (nodup_idx ht.nodup hi hu ▸ hj)
theorem pick_ids {L Lm : HL} {idx : List Nat} (hp : pick L idx = some Lm) : ∀ x ∈ ids Lm, x ∈ ids L := by
  intro x hx
  obtain ⟨i, _, o, ho⟩ := pick_sub hp x hx
  exact mem_ids.2 ⟨o, List.mem_of_getElem? ho⟩
def rng {σ R : Type} (b : (σ → Option R) → Int → Int → σ → Option R) : List (Int × Int) → (σ → Option R) → σ → Option R
  | [], κ, s => κ s
  | x :: ys, κ, s => b (fun s' => rng b ys κ s') x.1 x.2 s
theorem pre_step {α : Type} {l : List α} {pre : List {p : α // p ∈ l}} {x : {p : α // p ∈ l}} (h : pre ++ [x] <+: l.attach) : pre <+: l.attach ∧ l.drop pre.length = x.1 :: l.drop (pre.length + 1) := by
  obtain ⟨t, ht⟩ := h
  refine ⟨⟨[x] ++ t, by rw [← List.append_assoc]; exact ht⟩, ?_⟩
  have h1 : l.attach[pre.length]? = some x := by rw [← ht]; simp
  have h2 : pre.length < l.attach.length := (List.getElem?_eq_some_iff.1 h1).1
  have h3 : pre.length < l.length := by rw [List.length_attach] at h2; exact h2
  rw [List.drop_eq_getElem_cons h3]
  have h4 := (List.getElem?_eq_some_iff.1 h1).2
  rw [List.getElem_attach] at h4
  rw [← h4]
theorem rng_step {σ R : Type} {b : (σ → Option R) → Int → Int → σ → Option R} {YL : List (Int × Int)} {κ : σ → Option R} {r : R} {Good : σ → Prop} (htot : ∀ x ∈ YL, ∀ s, Good s → ∃ r', b (fun _ => some r) x.1 x.2 s = some r') (pre : List {p : Int × Int // p ∈ YL}) (x : {p : Int × Int // p ∈ YL}) (s : σ) (hg : Good s) (hI : pre <+: YL.attach → rng b (YL.drop pre.length) κ s = some r) :
    ∃ κ' r', b κ' x.1.1 x.1.2 s = some r' ∧ (∀ s', κ' s' = some r' → (pre ++ [x] <+: YL.attach → rng b (YL.drop (pre ++ [x]).length) κ s' = some r)) ∧ (pre ++ [x] <+: YL.attach → r' = r) := by
  by_cases h : pre ++ [x] <+: YL.attach
  · obtain ⟨h1, h2⟩ := pre_step h
    have h3 := hI h1
    rw [h2] at h3
    exact ⟨_, r, h3, fun s' hs _ => by rw [List.length_append, List.length_singleton]; exact hs, fun _ => rfl⟩
  · obtain ⟨r', hr⟩ := htot x.1 x.2 s hg
    exact ⟨_, r', hr, fun _ _ h' => absurd h' h, fun h' => absurd h' h⟩
theorem rng_done {σ R : Type} {b : (σ → Option R) → Int → Int → σ → Option R} {YL : List (Int × Int)} {κ : σ → Option R} {r : R} {s : σ} (hI : YL.attach <+: YL.attach → rng b (YL.drop YL.attach.length) κ s = some r) : κ s = some r := by
  have h := hI (List.prefix_refl _)
  rwa [List.length_attach, List.drop_length] at h
theorem rng_intro {σ R : Type} {b : (σ → Option R) → Int → Int → σ → Option R} {YL : List (Int × Int)} {κ : σ → Option R} {s : σ} {r : Option R} (H : rng b YL κ s = r) : ∃ κ', (∀ s, κ' s = κ s) ∧ rng b YL κ' s = r := ⟨κ, fun _ => rfl, H⟩
def DefOK (Ds : List Nat) : World → Prop := fun w => ∀ D ∈ Ds, w.heap[D]? = some (.deferred (some []))
def dsL (Ds : List Nat) : List Deferred := Ds.map fun D => { target := .collected D, args := #[] }
theorem DefOK.nil (w : World) : DefOK [] w := fun D h => by cases h
theorem DefOK.cons {D : Nat} {Ds : List Nat} {w : World} (h : w.heap[D]? = some (.deferred (some [])) ∧ DefOK Ds w) : DefOK (D :: Ds) w := fun E hE => by
  rcases List.mem_cons.1 hE with rfl | hE
  · exact h.1
  · exact h.2 E hE
theorem fresh_D {w0 : World} {I : Ix} {L : HL} {D : Nat} {Ds : List Nat} (i : Nat) (hL : L[i]? = some (.f (DefOK Ds))) (h : ∀ b, (∀ w, Tri w0 I w L → b ≤ w.heap.size) → b ≤ D) (hnd : Ds.Nodup) (hge : ∀ E ∈ Ds, w0.heap.size ≤ E) : (D :: Ds).Nodup ∧ ∀ E ∈ D :: Ds, w0.heap.size ≤ E := by
  refine ⟨List.nodup_cons.2 ⟨fun hm => ?_, hnd⟩, fun E hE => ?_⟩
  · have := h (D + 1) (fun w ht => (Array.getElem?_eq_some_iff.1 ((ht.facts _ (List.mem_of_getElem? hL)).here D hm)).1)
    omega
  · rcases List.mem_cons.1 hE with rfl | hE
    · exact h _ (fun w ht => ht.size)
    · exact hge E hE
def cellsB (L : HL) : Prop := ∀ e ∈ L, ∃ n cs t fz, e = Ent.b n (.cells cs t fz)
theorem cellsB.nil : cellsB [] := fun e h => by cases h
theorem cellsB.cons {n : Nat} {cs : Array Value} {t : TypeId} {fz : Nat × Nat} {L : HL} (h : cellsB L) : cellsB (.b n (.cells cs t fz) :: L) := fun e he => by
  rcases List.mem_cons.1 he with rfl | he
  · exact ⟨_, _, _, _, rfl⟩
  · exact h e he
section
variable {P : Program} {W : Code → (Exit → Act → World → Prop) → Act → World → Prop} {w0 : World} {I : Ix} {F : FL} {L : HL}
theorem leaves_ds {m k : Nat} {fn : Func} {a : Act} {X : Value → HL → Prop} {rs : List ResultVar} {vs : List Value} {Lb : HL} (hr : fn.results = rs.toArray) (h : RV P F Lb rs vs) (hc : cellsB Lb) (hX : X (packV vs) []) : ∀ (Ds : List Nat) (w : World), Ds.Nodup → (∀ E ∈ Ds, w0.heap.size ≤ E) → DefOK Ds w → Fr ⟨m, dsL Ds⟩ a F → Tri w0 I w Lb → LeavesInM Fence.wide k P fn a.tmps (Post X w0 I) (dsL Ds) .returning w
  | [], w, _, _, _, hf, ht => ⟨_, results_rv hr h hf ht.toWS, _, _, rfl, hX, ht.pick (fun p hp => (by cases hp)) List.nodup_nil⟩
  | D :: Ds, w, hnd, hge, hok, hf, ht => by
    have hK := hok D List.mem_cons_self
    have hlt := (Array.getElem?_eq_some_iff.1 hK).1
    have hD := hge D List.mem_cons_self
    rw [List.nodup_cons] at hnd
    refine ⟨by simp, .inl ⟨D, w.putObj D (.deferred none), rfl, run_takeDeferred hK, ?_⟩⟩
    have hne : ∀ j, j ≠ D → (w.putObj D (.deferred none)).heap[j]? = w.heap[j]? := fun j hj => by
      simp only [World.putObj]
      rw [Array.getElem?_setIfInBounds_ne (fun e => hj e.symm)]
    have hsz : (w.putObj D (.deferred none)).heap.size = w.heap.size := by simp [World.putObj]
    have hDb : ∀ n o, Ent.b n o ∈ Lb → n ≠ D := fun n o hn e => by
      obtain ⟨n', cs, t, fz, e'⟩ := hc _ hn
      injection e' with e1 e2
      have := ht.at_ n o hn
      rw [e, hK] at this
      injection this with this
      rw [e2] at this
      cases this
    have hIown : D ∉ I.own ∨ True := .inr trivial
    have ht2 : Tri w0 I (w.putObj D (.deferred none)) Lb :=
      { os := ht.os, tape := ht.tape, output := ht.output, size := by rw [hsz]; exact ht.size
        frame := fun j hj hI => (hne j (by omega)).trans (ht.frame j hj hI)
        at_ := fun n o hn => (hne n (hDb n o hn)).trans (ht.at_ n o hn)
        own := ht.own, nodup := ht.nodup
        facts := fun φ hφ => by
          obtain ⟨n, cs, t, fz, e⟩ := hc _ hφ
          cases e
        hol := ht.hol }
    have hf2 : Fr ⟨m, dsL Ds⟩ { a with defers := dsL Ds } F := ⟨hf.size, rfl, hf.at_⟩
    exact leaves_ds (m := m) (a := { a with defers := dsL Ds }) hr h hc hX Ds _ hnd.2 (fun E hE => hge E (List.mem_cons_of_mem _ hE)) (fun E hE => (hne E (fun e => hnd.1 (e ▸ hE))).trans (hok E (List.mem_cons_of_mem _ hE))) hf2 ht2
theorem q_retD {m k : Nat} {fn : Func} {X : Value → HL → Prop} {rs : List ResultVar} {vs : List Value} {e : Exit} {Ds : List Nat} {Lb : HL} (i : Nat) (hL : L[i]? = some (.f (DefOK Ds))) (hnd : Ds.Nodup) (hge : ∀ E ∈ Ds, w0.heap.size ≤ E) (idx : List Nat) (hp : pick L idx = some Lb) (hi : idx.Nodup) (hc : cellsB Lb) (he : e = .ret ∨ e = .normal) (hr : fn.results = rs.toArray) (h : RV P F Lb rs vs) (hX : X (packV vs) []) : QW P W ⟨m, dsL Ds⟩ w0 I e (PostM k P fn (Post X w0 I)) F L := by
  intro fl np a w hf ht
  have key : LeavesInM Fence.wide k P fn a.tmps (Post X w0 I) a.defers .returning w := by
    rw [hf.defers]
    exact leaves_ds hr h hc hX Ds w hnd hge ((ht.facts _ (List.mem_of_getElem? hL)).here) hf (ht.pick (mem_pick hp) (pick_nodup ht.nodup hp hi))
  rcases he with rfl | rfl <;> exact key
end
section
variable {P : Program} {W : Code → (Exit → Act → World → Prop) → Act → World → Prop} {n : Sz} {w0 : World} {I : Ix} {Q : Exit → Act → World → Prop} {F : FL} {L : HL}
def LoopAtN {σ : Type} (ns : σ → Sz) (w0 : World) (I : Ix) (Inv : σ → Prop) (μ : σ → Nat) (Fs : σ → FL) (Ls : σ → HL) (m : Nat) (a : Act) (w : World) : Prop := ∃ s, Inv s ∧ μ s = m ∧ Fr (ns s) a (Fs s) ∧ Tri w0 I w (Ls s)
theorem c_loopN {σ : Type} {c : Code} (ns : σ → Sz) (Inv : σ → Prop) (μ : σ → Nat) (Fs : σ → FL) (Ls : σ → HL) (s0 : σ) (idx : List Nat) (h : cK c = 4) (hn : ns s0 = n) (h0 : Inv s0) (hF : ∀ j v, look (Fs s0) j = some v → look F j = some v) (hp : pick L idx = some (Ls s0)) (hi : idx.Nodup)
    (hbody : ∀ s, Inv s → CW P W (ns s) w0 I (cA c) (Exit.then (fun a' w' => ∃ k, k < μ s ∧ LoopAtN ns w0 I Inv μ Fs Ls k a' w') Q) (Fs s) (Ls s)) : CW P W n w0 I c Q F L := by
  intro fl np a w hf ht
  have : c = .loop (cA c) := by cases c <;> first | (simp [cK] at h; done) | rfl | (rename_i d; cases d <;> first | rfl | (simp [cK] at h; done))
  rw [this]
  subst hn
  refine fl.loop (fun m a w => LoopAtN ns w0 I Inv μ Fs Ls m a w) (μ s0) ⟨s0, h0, rfl, hf.sub hF, ht.pick (mem_pick hp) (pick_nodup ht.nodup hp hi)⟩ ?_
  rintro m a' w' ⟨s, hs, rfl, hf', ht'⟩
  exact hbody s hs fl ⟨fun c a w h => np.1 c a w h, fun a w h => np.2 a w h⟩ a' w' hf' ht'
theorem q_againN {σ : Type} {ns : σ → Sz} {Inv : σ → Prop} {μ : σ → Nat} {Fs : σ → FL} {Ls : σ → HL} {m : Nat} (s' : σ) (idx : List Nat) (hn : ns s' = n) (hs : Inv s') (hm : μ s' < m) (hF : ∀ j v, look (Fs s') j = some v → look F j = some v) (hp : pick L idx = some (Ls s')) (hi : idx.Nodup) : QW P W n w0 I .normal (Exit.then (fun a' w' => ∃ k, k < m ∧ LoopAtN ns w0 I Inv μ Fs Ls k a' w') Q) F L := by
  subst hn
  exact fun fl np a w hf ht => ⟨μ s', hm, s', hs, rfl, hf.sub hF, ht.pick (mem_pick hp) (pick_nodup ht.nodup hp hi)⟩
end
end Go.Eng
