/-
How many changes, and steps, there may be is what the document says. No condition.
-/
import Derived.Test.YtndpagnkkmhhpaaGreatRows
import Derived.Test.YtndpagnkkmhhpaaGreatQCountBounds
import Derived.WalkKit
import Derived.ProofKit
import Derived.OpenShut
import Derived.ShutString
import Derived.ChangeOld
import Derived.Below
import Derived.SizedLaws
import Derived.Carry
namespace Go.Proofs.YtndpagnkkmhhpaaGreat.countBounds
open Go.ChangeShapes Go.WideShapes Go.ChangeAt Go.RowKit
open Go.ChangeMaps (open_string shut_string)
set_option linter.unusedVariables false
theorem own : ownKnob Tryz.prog.godebug = none := by kernel_rfl
theorem laidOut : laidOutB Tryz.prog = true := by kernel_rfl
set_option maxRecDepth 100000 in
theorem lifted (os : Os) (started : os.Started) (H : Type) (enc : TypeId × Value → H) :
    ReturnsInHanded {} Tryz.checked os 9 .any (Rows.countBoundsSpec.pre6 enc Tryz.prog Tryz.f9 Rows.countBoundsRow.domain false) (Rows.countBoundsSpec.post enc Tryz.prog Tryz.f9 false true false false) := by
  refine returnsInHanded_of_change_sized (C := Tryz.checked) own started (by kernel_rfl) Tryz.func9
    (ChangeSpec.witness6 (enc := enc) (C := Tryz.checked) false ⟨#[], #[.agg #[.int .i64 0, .int .i64 0, .int .i64 0, .int .i64 0, .int .i64 0, .int .i64 0, .int .i64 0]], []⟩ 8 (by kernel_rfl) (by kernel_rfl) (by kernel_rfl) (by kernel_rfl)) ?_
  intro W base args ds gs before hval0 hW hcnd hsz0 _
  have hval : ∀ (j : Nat) t v, Tryz.f9.params[j]? = some t → args[j]? = some v → Value.okWide Tryz.prog W .any base t v := hval0
  have hW' := hW
  obtain ⟨p, q, hA0, hV, rfl, hfz, hnd⟩ := hW
  have hA : DataW.TrodAll enc Tryz.prog W 0 (fun _ => true) true Tryz.f9.params.toList args.toList ds p := hA0
  rw [Tryz.params9] at hA hval
  obtain ⟨v0, vs0, d0, ds0, p0, q0, hargs, rfl, rfl, h0, r0⟩ := trodAll_cons hA
  obtain ⟨rfl, rfl, rfl⟩ := trodAll_nil r0
  obtain rfl : args = #[v0] := by cases args; simp_all
  obtain ⟨rfl, rfl⟩ := trodVars_none hV
  have k0 := h0
  have lt0 : ∀ x ∈ p0, x.block < W.heap.size := by obtain ⟨m, hm⟩ := k0; exact DataW.trod_lt m _ _ _ hm
  obtain ⟨a0, cs0, rfl, K0, w0⟩ := Open.open_struct (QCountBounds.tl0) Tryz.underlying23 (hval 0 23 v0 rfl rfl) h0
  have Z0 := QCountBounds.cells0 K0
  subst Z0
  clear hA0 hval0 hsz0
  refine (QCountBounds.walk a0  W w0).mono fun e W' ⟨he, bel⟩ => ?_
  subst he
  exact ⟨_, rfl, _, _, _, [], _, [], hW', trodAll_mk1 (shut_bool Tryz.underlying4 _), (trodAll_cons_mk (Below.trod laidOut (by kernel_rfl) (of_decide_eq_true (by kernel_rfl)) k0 bel lt0) trodAll_mk0), rfl, bel.frame _, fun h => by cases h⟩
theorem and_tt {a b : Bool} (ha : a = true) (hb : b = true) : (a && b) = true := by rw [ha, hb]; rfl
set_option maxHeartbeats 0 in
theorem facts : joinedFacts Tryz.pinned.checked.prog 9 Tryz.f9 Rows.countBoundsSpec Rows.countBoundsRow = true := by
  unfold joinedFacts
  refine and_tt ?_ (by as_aux_lemma => kernel_rfl)
  refine and_tt ?_ (by as_aux_lemma => kernel_rfl)
  refine and_tt ?_ (by as_aux_lemma => kernel_rfl)
  refine and_tt ?_ (by as_aux_lemma => kernel_rfl)
  refine and_tt ?_ (by as_aux_lemma => kernel_rfl)
  refine and_tt ?_ (by as_aux_lemma => kernel_rfl)
  refine and_tt ?_ (by as_aux_lemma => kernel_rfl)
  refine and_tt ?_ (by as_aux_lemma => kernel_rfl)
  refine and_tt ?_ (by as_aux_lemma => kernel_rfl)
  refine and_tt ?_ (by as_aux_lemma => kernel_rfl)
  refine and_tt ?_ (by as_aux_lemma => kernel_rfl)
  refine and_tt ?_ (by as_aux_lemma => kernel_rfl)
  refine and_tt ?_ (by as_aux_lemma => kernel_rfl)
  refine and_tt ?_ (by as_aux_lemma => kernel_rfl)
  refine and_tt ?_ (by as_aux_lemma => kernel_rfl)
  refine and_tt ?_ (by as_aux_lemma => kernel_rfl)
  refine and_tt ?_ (by as_aux_lemma => kernel_rfl)
  refine and_tt ?_ (by as_aux_lemma => kernel_rfl)
  refine and_tt ?_ (by as_aux_lemma => kernel_rfl)
  refine and_tt ?_ (by as_aux_lemma => kernel_rfl)
  refine and_tt ?_ (by as_aux_lemma => kernel_rfl)
  refine and_tt ?_ (by as_aux_lemma => kernel_rfl)
  refine and_tt ?_ (by as_aux_lemma => kernel_rfl)
  refine and_tt ?_ (by as_aux_lemma => kernel_rfl)
  refine and_tt ?_ (by as_aux_lemma => kernel_rfl)
  refine and_tt ?_ (by as_aux_lemma => kernel_rfl)
  refine and_tt ?_ (by as_aux_lemma => kernel_rfl)
  refine and_tt ?_ (by as_aux_lemma => kernel_rfl)
  refine and_tt ?_ (by as_aux_lemma => kernel_rfl)
  refine and_tt ?_ (by as_aux_lemma => kernel_rfl)
  refine and_tt ?_ (by as_aux_lemma => kernel_rfl)
  as_aux_lemma => kernel_rfl
theorem named : Tryz.pinned.checked.prog.funcNamed Rows.countBoundsRow.func = some 9 := by kernel_rfl
theorem instance0 : Tryz.f9.isInstance Tryz.pinned.checked.prog Rows.countBoundsRow.origin Rows.countBoundsRow.targs := of_decide_eq_true (by kernel_rfl)
theorem wrapper0 : Tryz.f9.isWrapper Tryz.pinned.checked.prog Rows.countBoundsRow.wrapper Rows.countBoundsRow.mainSum := (by unfold Func.isWrapper; first | (rw [if_pos (by decide +kernel)]; kernel_rfl) | (rw [if_neg (by decide +kernel)]; exact ⟨rfl, rfl⟩))
theorem over : Rows.countBoundsRow.holds Tryz.pinned (OpenSpec.ofChange Rows.countBoundsSpec) :=
  OpenClaim.holds_of_wide 9 Tryz.f9 rfl rfl rfl rfl rfl rfl rfl ⟨rfl, rfl, rfl, rfl, rfl⟩ rfl rfl rfl rfl rfl named Tryz.func9 facts instance0 wrapper0
    (fun os started H enc _ => lifted os started H enc)
theorem proved : Rows.CountBoundsSaid := over
#print axioms proved
end Go.Proofs.YtndpagnkkmhhpaaGreat.countBounds
namespace Go.Proofs.YtndpagnkkmhhpaaGreat
/-- The row, under a short name, for the claim. -/
theorem countBounds_holds : Rows.CountBoundsSaid := countBounds.proved
end Go.Proofs.YtndpagnkkmhhpaaGreat
