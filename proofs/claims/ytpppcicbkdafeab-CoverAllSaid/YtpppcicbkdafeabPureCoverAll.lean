/-
Whether any entry is covered by any eras is what the document says. No condition.
-/
import Derived.Test.YtpppcicbkdafeabQCoverAll
import Derived.Test.YtpppcicbkdafeabPlain06
namespace Go.Proofs.Ytpppcicbkdafeab.Pure
open Go.RowKit Go.Proofs.Ytpppcicbkdafeab.GCover Go.Proofs.Ytpppcicbkdafeab.Plain06 Go.Proofs.YtpppcicbkdafeabW.PrintWords Go.Proofs.YtpppcicbkdafeabW.PrintLast Go.Proofs.YtpppcicbkdafeabW.PrintMore

theorem CoverAll : QCoverAll.Pure := by
  intro a l wa wl
  refine ⟨2000, ?_⟩
  unfold stepstonelaw06_CoverAll.f
  by_cases c : (l.length : Int) > 1000
  · rw [if_pos c, Plain06.alive]; rfl
  · rw [if_neg c, Plain06.alive, covered l _ _ _ (by omega), refCovered l _ _ _ (by omega) 2000 (by omega)]
    simp
end Go.Proofs.Ytpppcicbkdafeab.Pure
