/-
An array of three whole numbers, as an argument.
-/
import Derived.Test.YtpppcicbkdafeacOwnOpen
import Derived.Laws.IdiomArrays
namespace Go.Proofs.Ytpppcicbkdafeac.Open
open Go.ChangeShapes Go.WideShapes Go.RowKit Go.Deep
variable {P : Program}
theorem okWide_array {t e : TypeId} {n : Nat} {w : World} {r : Reach} {b0 : Nat} {v : Value} (ht : P.underlying t = some (.array n e)) (h : Value.okWide P w r b0 t v) : ∃ cs, v = .agg cs ∧ cs.size = P.cellsOf t := by
  simp only [Value.okWide, ht] at h
  obtain ⟨cs, h1, h2, _⟩ := h
  exact ⟨cs, h1, h2⟩
theorem open_arr3 {t e : TypeId} {k : IntKind} {H : Type} {enc : TypeId × Value → H} {w : World} {base : Nat} {spare : Nat → Bool} {held : Bool} {r : Reach} {b0 : Nat} {v : Value} {x : DataW H} {p : List MemPlace}
    (ht : P.underlying t = some (.array 3 e)) (he : P.underlying e = some (.int k)) (hce : P.cellsOf e = 1) (hct : P.cellsOf t = 3) (hv : Value.okWide P w r b0 t v) (h : DataW.Trod enc P w base spare held t v x p) : ∃ z0 z1 z2, v = .agg #[.int k z0, .int k z1, .int k z2] := by
  obtain ⟨cs, rfl, hs⟩ := okWide_array ht hv
  rw [hct] at hs
  obtain ⟨fuel, hf⟩ := h
  obtain ⟨c0, c1, c2, hcs⟩ : ∃ c0 c1 c2, cs = #[c0, c1, c2] := by
    obtain ⟨l⟩ := cs
    match l, hs with
    | [c0, c1, c2], _ => exact ⟨c0, c1, c2, rfl⟩
  subst hcs
  have hf' : DataW.trod enc P w base spare held fuel t [c0, c1, c2] = some (x, p) := hf
  obtain ⟨y0, y1, y2, n, _, h0, h1, h2⟩ := trod_array3 ht hce hf'
  obtain ⟨z0, e0, _⟩ := DataW.trod_int he h0
  obtain ⟨z1, e1, _⟩ := DataW.trod_int he h1
  obtain ⟨z2, e2, _⟩ := DataW.trod_int he h2
  injection e0 with e0 _
  injection e1 with e1 _
  injection e2 with e2 _
  exact ⟨z0, z1, z2, by rw [e0, e1, e2]⟩
end Go.Proofs.Ytpppcicbkdafeac.Open
