/-
Words at rest brought together: a slot whose node moved, or was let go of, is in another generation, or out; a node that did not move has the handle that it had; conditions: none.
-/
import Derived.Test.YtgbcnokeaaabfaaGreatRows
import Derived.Test.YtgbcnokeaaabfaaGreatQPackHandles
import Derived.WalkKit
import Derived.ProofKit
import Derived.OpenShut
import Derived.ShutString
import Derived.ChangeOld
import Derived.Below
import Derived.SizedLaws
import Derived.Carry
namespace Go.Proofs.YtgbcnokeaaabfaaGreat.packHandles
open Go.ChangeShapes Go.WideShapes Go.ChangeAt Go.RowKit
open Go.ChangeMaps (open_string shut_string)
set_option linter.unusedVariables false
theorem own : ownKnob Tryz.prog.godebug = none := by kernel_rfl
theorem laidOut : laidOutB Tryz.prog = true := by kernel_rfl
set_option maxRecDepth 100000 in
theorem lifted (os : Os) (started : os.Started) (H : Type) (enc : TypeId × Value → H) :
    ReturnsInHanded {} Tryz.checked os 5 .any (Rows.packHandlesSpec.pre6 enc Tryz.prog Tryz.f5 Rows.packHandlesRow.domain false) (Rows.packHandlesSpec.post enc Tryz.prog Tryz.f5 false true false false) := by
  refine returnsInHanded_of_change_sized (C := Tryz.checked) own started (by kernel_rfl) Tryz.func5
    (ChangeSpec.witness6 (enc := enc) (C := Tryz.checked) false ⟨#[], #[.agg #[.int .i64 0, .int .i64 0, .int .i64 0, .int .i64 0, .int .i64 0, .int .i64 0, .int .i64 0], .slice none 0 0, .agg #[.slice none 0 0, .int .i64 0]], []⟩ 8 (by kernel_rfl) (by kernel_rfl) (by kernel_rfl) (by kernel_rfl)) ?_
  intro W base args ds gs before hval0 hW hcnd hsz0 _
  have hval : ∀ (j : Nat) t v, Tryz.f5.params[j]? = some t → args[j]? = some v → Value.okWide Tryz.prog W .any base t v := hval0
  have hW' := hW
  obtain ⟨p, q, hA0, hV, rfl, hfz, hnd⟩ := hW
  have hA : DataW.TrodAll enc Tryz.prog W 0 (fun _ => true) true Tryz.f5.params.toList args.toList ds p := hA0
  rw [Tryz.params5] at hA hval
  obtain ⟨v0, vs0, d0, ds0, p0, q0, hargs, rfl, rfl, h0, r0⟩ := trodAll_cons hA
  obtain ⟨v1, vs1, d1, ds1, p1, q1, rfl, rfl, rfl, h1, r1⟩ := trodAll_cons r0
  obtain ⟨v2, vs2, d2, ds2, p2, q2, rfl, rfl, rfl, h2, r2⟩ := trodAll_cons r1
  obtain ⟨rfl, rfl, rfl⟩ := trodAll_nil r2
  obtain rfl : args = #[v0, v1, v2] := by cases args; simp_all
  obtain ⟨rfl, rfl⟩ := trodVars_none hV
  have k0 := h0
  have lt0 : ∀ x ∈ p0, x.block < W.heap.size := by obtain ⟨m, hm⟩ := k0; exact DataW.trod_lt m _ _ _ hm
  obtain ⟨a0, cs0, rfl, K0, w0⟩ := Open.open_struct (QPackHandles.tl0) Tryz.underlying23 (hval 0 23 v0 rfl rfl) h0
  have Z0 := QPackHandles.cells0 K0
  subst Z0
  have k1 := h1
  have lt1 : ∀ x ∈ p1, x.block < W.heap.size := by obtain ⟨m, hm⟩ := k1; exact DataW.trod_lt m _ _ _ hm
  obtain ⟨A1, c1, l1, rfl, hc1, hr1, w1⟩ := Open.open_row (QPackHandles.tl1) Tryz.underlying24 (hval 1 24 v1 rfl rfl) h1
  have k2 := h2
  have lt2 : ∀ x ∈ p2, x.block < W.heap.size := by obtain ⟨m, hm⟩ := k2; exact DataW.trod_lt m _ _ _ hm
  obtain ⟨a2, cs2, rfl, K2, w2⟩ := Open.open_struct (QPackHandles.tl2) Tryz.underlying27 (hval 2 27 v2 rfl rfl) h2
  obtain ⟨A2_0, c2_0, Z2, hc2_0, hr2_0⟩ := QPackHandles.cells2 K2
  subst Z2
  clear hA0 hval0 hsz0
  refine (QPackHandles.walk a0 l1 a2 _ _ _ _ W w0 w1 w2 hr1 hc1 hr2_0 hc2_0).mono fun e W' ⟨he, bel⟩ => ?_
  subst he
  exact ⟨_, rfl, _, _, _, [], _, [], hW', trodAll_mk1 (shut_bool Tryz.underlying4 _), (trodAll_cons_mk (Below.trod laidOut (by kernel_rfl) (of_decide_eq_true (by kernel_rfl)) k0 bel lt0) (trodAll_cons_mk (Below.trod laidOut (by kernel_rfl) (of_decide_eq_true (by kernel_rfl)) k1 bel lt1) (trodAll_cons_mk (Below.trod laidOut (by kernel_rfl) (of_decide_eq_true (by kernel_rfl)) k2 bel lt2) trodAll_mk0))), rfl, bel.frame _, fun h => by cases h⟩
theorem and_tt {a b : Bool} (ha : a = true) (hb : b = true) : (a && b) = true := by rw [ha, hb]; rfl
set_option maxHeartbeats 0 in
theorem facts : joinedFacts Tryz.pinned.checked.prog 5 Tryz.f5 Rows.packHandlesSpec Rows.packHandlesRow = true := by
  unfold joinedFacts
  refine and_tt ?_ (by as_aux_lemma => kernel_rfl)
  refine and_tt ?_ (by as_aux_lemma => kernel_rfl)
  refine and_tt ?_ (by as_aux_lemma => kernel_rfl)
  refine and_tt ?_ (by as_aux_lemma => kernel_rfl)
  refine and_tt ?_ (by as_aux_lemma => kernel_rfl)
  refine and_tt ?_ (by as_aux_lemma => kernel_rfl)
  refine and_tt ?_ (by as_aux_lemma => kernel_rfl)
  refine and_tt ?_ (by as_aux_lemma => kernel_rfl)
  refine and_tt ?_ (by as_aux_lemma => kernel_rfl)
  refine and_tt ?_ (by as_aux_lemma => kernel_rfl)
  refine and_tt ?_ (by as_aux_lemma => kernel_rfl)
  refine and_tt ?_ (by as_aux_lemma => kernel_rfl)
  refine and_tt ?_ (by as_aux_lemma => kernel_rfl)
  refine and_tt ?_ (by as_aux_lemma => kernel_rfl)
  refine and_tt ?_ (by as_aux_lemma => kernel_rfl)
  refine and_tt ?_ (by as_aux_lemma => kernel_rfl)
  refine and_tt ?_ (by as_aux_lemma => kernel_rfl)
  refine and_tt ?_ (by as_aux_lemma => kernel_rfl)
  refine and_tt ?_ (by as_aux_lemma => kernel_rfl)
  refine and_tt ?_ (by as_aux_lemma => kernel_rfl)
  refine and_tt ?_ (by as_aux_lemma => kernel_rfl)
  refine and_tt ?_ (by as_aux_lemma => kernel_rfl)
  refine and_tt ?_ (by as_aux_lemma => kernel_rfl)
  refine and_tt ?_ (by as_aux_lemma => kernel_rfl)
  refine and_tt ?_ (by as_aux_lemma => kernel_rfl)
  refine and_tt ?_ (by as_aux_lemma => kernel_rfl)
  refine and_tt ?_ (by as_aux_lemma => kernel_rfl)
  refine and_tt ?_ (by as_aux_lemma => kernel_rfl)
  refine and_tt ?_ (by as_aux_lemma => kernel_rfl)
  refine and_tt ?_ (by as_aux_lemma => kernel_rfl)
  refine and_tt ?_ (by as_aux_lemma => kernel_rfl)
  as_aux_lemma => kernel_rfl
theorem named : Tryz.pinned.checked.prog.funcNamed Rows.packHandlesRow.func = some 5 := by kernel_rfl
theorem instance0 : Tryz.f5.isInstance Tryz.pinned.checked.prog Rows.packHandlesRow.origin Rows.packHandlesRow.targs := of_decide_eq_true (by kernel_rfl)
theorem wrapper0 : Tryz.f5.isWrapper Tryz.pinned.checked.prog Rows.packHandlesRow.wrapper Rows.packHandlesRow.mainSum := (by unfold Func.isWrapper; first | (rw [if_pos (by decide +kernel)]; kernel_rfl) | (rw [if_neg (by decide +kernel)]; exact ⟨rfl, rfl⟩))
theorem over : Rows.packHandlesRow.holds Tryz.pinned (OpenSpec.ofChange Rows.packHandlesSpec) :=
  OpenClaim.holds_of_wide 5 Tryz.f5 rfl rfl rfl rfl rfl rfl rfl ⟨rfl, rfl, rfl, rfl, rfl⟩ rfl rfl rfl rfl rfl named Tryz.func5 facts instance0 wrapper0
    (fun os started H enc _ => lifted os started H enc)
theorem proved : Rows.PackHandlesSaid := over
#print axioms proved
end Go.Proofs.YtgbcnokeaaabfaaGreat.packHandles
namespace Go.Proofs.YtgbcnokeaaabfaaGreat
/-- The row, under a short name, for the claim. -/
theorem packHandles_holds : Rows.PackHandlesSaid := packHandles.proved
end Go.Proofs.YtgbcnokeaaabfaaGreat
