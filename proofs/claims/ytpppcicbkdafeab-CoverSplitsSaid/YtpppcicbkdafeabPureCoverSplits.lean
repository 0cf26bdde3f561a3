/-
Which of any entries are covered, and which are not, is what the document says; what was given stays as it was. No condition.
-/
import Derived.Test.YtpppcicbkdafeabQCoverSplits
import Derived.Test.YtpppcicbkdafeabPlain06
namespace Go.Proofs.Ytpppcicbkdafeab.Pure
open Go.RowKit Go.Proofs.Ytpppcicbkdafeab.GCover Go.Proofs.Ytpppcicbkdafeab.Plain06 Go.Proofs.YtpppcicbkdafeabW.PrintWords Go.Proofs.YtpppcicbkdafeabW.PrintLast Go.Proofs.YtpppcicbkdafeabW.PrintMore

theorem CoverSplits : QCoverSplits.Pure := by
  intro l es wl we
  refine ⟨2001, ?_⟩
  have ha : ∀ k, stepstonelaw06_CoverSplits.j0 (k + 1) l es true = some true := by
    intro k; simp only [stepstonelaw06_CoverSplits.j0, if_true]; rw [Plain06.alive]; rfl
  unfold stepstonelaw06_CoverSplits.f
  by_cases c : (l.length : Int) > 100
  · rw [if_pos c]; exact ha 2000
  rw [if_neg c]
  by_cases c2 : (es.length : Int) > 100
  · rw [decide_eq_true c2]; exact ha 2000
  rw [decide_eq_false c2]
  have h1 : ((l.map new).filter (cov es)).map old = l.filter (fun x => cov es (new x) == true) := by
    rw [List.filter_map, List.map_map]
    have : (fun x => cov es (new x) == true) = (cov es ∘ new) := by funext x; simp
    rw [this]; exact List.map_id'' (fun _ => rfl) _
  have h2 : ((l.map new).filter (fun x => !cov es x)).map old = l.filter (fun x => cov es (new x) == false) := by
    rw [List.filter_map, List.map_map]
    have : (fun x => cov es (new x) == false) = ((fun x => !cov es x) ∘ new) := by funext x; simp
    rw [this]; exact List.map_id'' (fun _ => rfl) _
  have g1 : ((l.map new).filter (cov es)).length ≤ 1000 := by have := List.length_filter_le (cov es) (l.map new); rw [List.length_map] at this; omega
  have g2 : ((l.map new).filter (fun x => !cov es x)).length ≤ 1000 := by have := List.length_filter_le (fun x => !cov es x) (l.map new); rw [List.length_map] at this; omega
  have g3 := List.length_filter_le (fun x => cov es (new x) == true) l
  have g4 := List.length_filter_le (fun x => cov es (new x) == false) l
  show stepstonelaw06_CoverSplits.j0 (2000 + 1) l es false = some true
  simp only [stepstonelaw06_CoverSplits.j0]
  rw [if_neg Bool.false_ne_true, news l (by omega) 2000 (by omega), Option.bind_some, split _ es (by rw [List.length_map]; omega) (by omega) 2000 (by rw [List.length_map]; omega), Option.bind_some, Plain06.alive, Option.bind_some, if_pos rfl]
  rw [olds _ g1 2000 (by omega), Option.bind_some, h1, refSplit l es true (by omega) (by omega) 2000 (by omega), Option.bind_some, same _ (by omega) 2000 (by omega), Option.bind_some, if_pos rfl]
  rw [olds _ g2 2000 (by omega), Option.bind_some, h2, refSplit l es false (by omega) (by omega) 2000 (by omega), Option.bind_some, same _ (by omega) 2000 (by omega), Option.bind_some, if_pos rfl]
  rw [olds _ (by rw [List.length_map]; omega) 2000 (by rw [List.length_map]; omega), Option.bind_some, olds_news, same _ (by omega) 2000 (by omega)]
  rfl
end Go.Proofs.Ytpppcicbkdafeab.Pure
