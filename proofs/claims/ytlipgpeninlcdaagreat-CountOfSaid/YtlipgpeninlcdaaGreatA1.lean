/-
Own text, put together by an own program (shake.py) out of this claim's texts: what its theorem needs of them.
-/
import Derived.Test.YtlipgpeninlcdaaGreatE2
import Derived.RangeFuncFrom
import Derived.LoopIn
import Derived.Sort.LoopGhostIn
import Derived.Maps.AppendAt
import Derived.Deep.Slices
import Derived.ArgAppend
import Derived.Laws.MakeOwn
import Derived.Scope
import Derived.Control
import Derived.Test.YtlipgpeninlcdaaGreatProg
import Derived.Test.YtlipgpeninlcdaaGreatNv
namespace Go.Eng
end Go.Eng
namespace Go.Proofs.YtlipgpeninlcdaaGreatW.PrintWords
end Go.Proofs.YtlipgpeninlcdaaGreatW.PrintWords
namespace Go.Proofs.YtlipgpeninlcdaaGreatW.PrintLast
end Go.Proofs.YtlipgpeninlcdaaGreatW.PrintLast
namespace Go.Proofs.YtlipgpeninlcdaaGreatW.PrintMore
end Go.Proofs.YtlipgpeninlcdaaGreatW.PrintMore
namespace Go.Eng
open Go.RowKit
set_option linter.unusedVariables false
set_option linter.unusedSimpArgs false
variable {P : Program}
structure KG (n₀ : Nat) (G : List Nat) (A B : World) : Prop where
  os : B.os = A.os
  tape : B.tape = A.tape
  output : B.output = A.output
  size : A.heap.size ≤ B.heap.size
  block : ∀ k, k < n₀ → k ∉ G → B.heap[k]? = A.heap[k]?
theorem KG.refl (n₀ : Nat) (G : List Nat) (A : World) : KG n₀ G A A := ⟨rfl, rfl, rfl, Nat.le_refl _, fun _ _ _ => rfl⟩
theorem KG.trans {n₀ : Nat} {G : List Nat} {A B C : World} (h : KG n₀ G A B) (k : KG n₀ G B C) : KG n₀ G A C :=
  ⟨k.os.trans h.os, k.tape.trans h.tape, k.output.trans h.output, Nat.le_trans h.size k.size, fun i hi hg => (k.block i hi hg).trans (h.block i hi hg)⟩
theorem KG.put {n₀ : Nat} {G : List Nat} (W : World) (l : Nat) (o o' : Obj) (hl : n₀ ≤ l) (hw : W.heap[l]? = some o) : KG n₀ G W (W.putObj l o') := by
  have hg := grownBy_putObj' W l o'
  exact ⟨hg.os, hg.tape, hg.output, hg.size, fun k hk _ => hg.block k (by have := (Array.getElem?_eq_some_iff.1 hw).1; omega) (fun e => by cases e; omega)⟩
def cellsOnly (L : HL) : Prop := ∀ e ∈ L, (∃ n cs t, e = Ent.b n (.cells cs t (0, 0))) ∨ e = Ent.f (fun _ => True)
theorem cellsOnly.b {L : HL} (h : cellsOnly L) {n : Nat} {o : Obj} (hm : Ent.b n o ∈ L) : ∃ cs t, o = .cells cs t (0, 0) := by
  rcases h _ hm with ⟨n', cs, t, e⟩ | e
  · injection e with e1 e2
    exact ⟨cs, t, e2⟩
  · cases e
theorem cellsOnly.f {L : HL} (h : cellsOnly L) {φ : World → Prop} (hm : Ent.f φ ∈ L) (H : List Nat) (w : World) : Stab H w φ := by
  rcases h _ hm with ⟨n', cs, t, e⟩ | e
  · cases e
  · injection e with e
    subst e
    exact fun _ _ => trivial
inductive RV (P : Program) (F : FL) (L : HL) : List ResultVar → List Value → Prop where
  | nil : RV P F L [] []
  | tmp {t : Tmp} {r : List ResultVar} {v : Value} {vs : List Value} : look F t = some v → RV P F L r vs → RV P F L (.tmp t :: r) (v :: vs)
  | cell {x : Tmp} {t : TypeId} {d : TypeDesc} {b off : Nat} {cs : Array Value} {e : TypeId} {fz : Nat × Nat} {r : List ResultVar} {v : Value} {vs : List Value} (i : Nat) : look F x = some (.pointer (some ⟨b, off, none⟩)) → P.underlying t = some d → notAgg d = true → L[i]? = some (.b b (.cells cs e fz)) → cs[off]? = some v → RV P F L r vs → RV P F L (.cell x t :: r) (v :: vs)
  | agg {x : Tmp} {t : TypeId} {d : TypeDesc} {b off m : Nat} {cs : Array Value} {e : TypeId} {fz : Nat × Nat} {r : List ResultVar} {vs : List Value} (us : List Value) (i : Nat) : look F x = some (.pointer (some ⟨b, off, none⟩)) → P.underlying t = some d → notAgg d = false → (P.info? t).map (·.size) = some m → L[i]? = some (.b b (.cells cs e fz)) → us.length = m → (cs.toList.drop off).take m = us → RV P F L r vs → RV P F L (.cell x t :: r) (.agg us.toArray :: vs)
theorem results_rv {fn : Func} {n : Sz} {a : Act} {w0 w : World} {I : Ix} {F : FL} {L : HL} {rs : List ResultVar} {vs : List Value} (hr : fn.results = rs.toArray) (h : RV P F L rs vs) (hf : Fr n a F) (hw : WS w0 I w L) : (results fn a.tmps).run P w = .ok (packV vs) w := by
  have key : ∀ {rs : List ResultVar} {vs : List Value}, RV P F L rs vs → (rs.mapM (m := Sem) fun | .tmp t => pure (a.tmps.getD t undef) | .cell x t => do loadVar t (← asAddr (a.tmps.getD x undef))).run P w = .ok vs w := by
    intro rs vs h
    induction h with
    | nil => simp
    | tmp h1 _ ih =>
      simp only [List.mapM_cons, Sem.run_bind, Sem.run_pure, Result.andThen_ok, hf.at_ _ _ h1, ih]
    | @cell x t d b off cs e fz r v vs i h1 ht hd hL hc _ ih =>
      have hcell := (hw.cell hL _).trans hc
      have hone : (do loadVar t (← asAddr (a.tmps.getD x undef)) : Sem Value).run P w = .ok v w := by
        simp only [Sem.run_bind, Sem.run_pure, Result.andThen_ok, hf.at_ _ _ h1, asAddr, loadVar, run_isAgg0 ht hd, if_false, Bool.false_eq_true, run_load hcell]
      rw [List.mapM_cons, Sem.run_bind]
      refine (congrArg (fun r => Result.andThen r _) hone).trans ?_
      simp only [Sem.run_bind, Sem.run_pure, Result.andThen_ok, ih]
    | @agg x t d b off m cs e fz r vs us i h1 ht hd hm hL hl hc _ ih =>
      have h2 : ∀ j v, us[j]? = some v → w.cell? ⟨b, off + j, none⟩ = some v := by
        intro j v hv
        rw [hw.cell hL]
        rw [← hc, List.getElem?_take] at hv
        split at hv
        · rw [List.getElem?_drop] at hv
          simpa using hv
        · cases hv
      have h3 := run_cells (P := P) (w := w) h2
      rw [hl] at h3
      have hone : (do loadVar t (← asAddr (a.tmps.getD x undef)) : Sem Value).run P w = .ok (.agg us.toArray) w := by
        simp only [Sem.run_bind, Sem.run_pure, Result.andThen_ok, hf.at_ _ _ h1, asAddr, loadVar, run_isAgg1 ht hd, if_true, run_size hm, h3]
      rw [List.mapM_cons, Sem.run_bind]
      refine (congrArg (fun r => Result.andThen r _) hone).trans ?_
      simp only [Sem.run_bind, Sem.run_pure, Result.andThen_ok, ih]
  have k := key h
  have hm : (fn.results.mapM (m := Sem) fun | .tmp t => pure (a.tmps.getD t undef) | .cell x t => do loadVar t (← asAddr (a.tmps.getD x undef))).run P w = .ok vs.toArray w := by
    rw [hr]
    simp only [List.mapM_toArray, Sem.run_map, k, Result.andThen_ok]
  unfold results
  rw [Sem.run_bind]
  refine (congrArg (fun r => Result.andThen r _) hm).trans ?_
  simp only [Result.andThen_ok]
  match vs with
  | [] => simp [packV]
  | [v] => simp [packV]
  | u :: v :: r => simp [packV]
section
variable {W : Code → (Exit → Act → World → Prop) → Act → World → Prop} {w0 : World} {I : Ix} {F : FL} {L : HL}
theorem q_ret {m : Nat} {fn : Func} {X : Value → HL → Prop} {rs : List ResultVar} {vs : List Value} (hr : fn.results = rs.toArray) (h : RV P F L rs vs) {L' : HL} (idx : List Nat) (hp : pick L idx = some L') (hi : idx.Nodup) (hX : X (packV vs) L') : QW P W ⟨m, []⟩ w0 I .ret (bodyPost P fn (Post X w0 I)) F L :=
  fun fl np a w hf ht => ⟨hf.defers, _, results_rv hr h hf ht.toWS, _, _, rfl, hX, ht.pick (mem_pick hp) (pick_nodup ht.nodup hp hi)⟩
end
end Go.Eng
