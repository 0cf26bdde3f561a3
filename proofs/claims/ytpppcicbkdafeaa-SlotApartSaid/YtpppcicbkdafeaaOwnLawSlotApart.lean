/-
Two slots' words are the same just if state and generation are; two values' just if the values are. No condition.
-/
import Derived.Test.YtpppcicbkdafeaaRows
import Derived.Test.YtpppcicbkdafeaaOwnApart
import Derived.WalkKit
import Derived.ProofKit
import Derived.OpenShut
import Derived.ShutString
import Derived.ChangeOld
import Derived.Below
import Derived.SizedLaws
import Derived.Laws.IdiomArrays
namespace Go.Proofs.Ytpppcicbkdafeaa.slotApart
open Go.ChangeShapes Go.WideShapes Go.ChangeAt Go.RowKit
theorem own : ownKnob Try.prog.godebug = none := by kernel_rfl
theorem list2 (l : List Value) (h : l.length = 2) : ∃ a b, l = [a, b] := by
  match l, h with
  | [a, b], _ => exact ⟨a, b, rfl⟩
section
variable {H : Type} {enc : TypeId × Value → H} {P : Program} {w : World} {base : Nat} {spare : Nat → Bool} {held : Bool}
/-- An array of two whole numbers by value, opened. -/
theorem open_arr2 {t e : TypeId} {k : IntKind} {r : Reach} {b0 : Nat} {v : Value} {d : DataW H} {p : List MemPlace} (hu : P.underlying t = some (.array 2 e)) (he : P.underlying e = some (.int k)) (hce : P.cellsOf e = 1) (hct : P.cellsOf t = 2)
    (hv : Value.okWide P w r b0 t v) (h : DataW.Trod enc P w base spare held t v d p) :
    ∃ a b, v = .agg #[.int k a, .int k b] ∧ d = .agg [.lit (.int k a), .lit (.int k b)] ∧ p = [] ∧ (Lit.int k a).wf = true ∧ (Lit.int k b).wf = true := by
  obtain ⟨cs, rfl, hsz, _⟩ : ∃ cs, v = .agg cs ∧ cs.size = P.cellsOf t ∧ Row.okWide P w r b0 t cs := by
    simpa [Value.okWide, hu] using hv
  rw [hct] at hsz
  obtain ⟨l⟩ := cs
  obtain ⟨c0, c1, rfl⟩ := list2 l hsz
  obtain ⟨fuel, hf⟩ := h
  obtain ⟨xs, m, rfl, ex, hcl, hl, hel⟩ := DataW.trod_array hu hf
  have e0 := hel 0 (by omega)
  have e1 := hel 1 (by omega)
  obtain ⟨y0, y1, rfl⟩ : ∃ a b, xs = [a, b] := by
    match xs, hl with
    | [a, b], _ => exact ⟨a, b, rfl⟩
  simp only [hce, Value.cells] at e0 e1
  obtain ⟨x0, e0', rfl, w0⟩ := DataW.trod_int he (e0.trans rfl)
  obtain ⟨x1, e1', rfl, w1⟩ := DataW.trod_int he (e1.trans rfl)
  simp at e0' e1'
  subst e0' e1'
  simp only [Prod.mk.injEq] at ex
  exact ⟨x0, x1, rfl, ex.1, by rw [ex.2]; rfl, w0, w1⟩
theorem shut_arr2 {t e : TypeId} {k : IntKind} {a b : Int} (hu : P.underlying t = some (.array 2 e)) (he : P.underlying e = some (.int k)) (hce : P.cellsOf e = 1) (hct : P.cellsOf t = 2) (wa : (Lit.int k a).wf = true) (wb : (Lit.int k b).wf = true) :
    DataW.Trod enc P w base spare held t (.agg #[.int k a, .int k b]) (.agg [.lit (.int k a), .lit (.int k b)]) [] :=
  ⟨2, by simp [DataW.trod, Value.cells, hu, he, hct, hce, wa, wb, show List.range 2 = [0, 1] from rfl]⟩
end
theorem c32 : Try.prog.cellsOf 32 = 2 := by kernel_rfl
theorem c33 : Try.prog.cellsOf 33 = 2 := by kernel_rfl
theorem c3 : Try.prog.cellsOf 3 = 1 := by kernel_rfl
theorem c22 : Try.prog.cellsOf 22 = 1 := by kernel_rfl
set_option maxRecDepth 100000 in
theorem lifted (os : Os) (started : os.Started) (H : Type) (enc : TypeId × Value → H) :
    ReturnsInHanded {} Try.checked os 7 .any (Rows.slotApartSpec.pre6 enc Try.prog Try.f7 Rows.slotApartRow.domain false) (Rows.slotApartSpec.post enc Try.prog Try.f7 false true false false) := by
  refine returnsInHanded_of_change_sized (C := Try.checked) own started (by kernel_rfl) Try.func7
    (ChangeSpec.witness6 (enc := enc) (C := Try.checked) false ⟨#[], #[.agg #[.int .i64 0, .int .i64 0], .agg #[.int .i64 0, .int .i64 0], .agg #[.int .u64 0, .int .u64 0]], []⟩ 8 (by kernel_rfl) (by kernel_rfl) (by kernel_rfl) (by kernel_rfl)) ?_
  intro W base args ds gs before hval0 hW hcnd hsz0 _
  have hval : ∀ (j : Nat) t v, Try.f7.params[j]? = some t → args[j]? = some v → Value.okWide Try.prog W .any base t v := hval0
  have hW' := hW
  obtain ⟨p, q, hA0, hV, rfl, hfz, hnd⟩ := hW
  have hA : DataW.TrodAll enc Try.prog W 0 (fun _ => true) true Try.f7.params.toList args.toList ds p := hA0
  rw [Try.params7] at hA hval
  obtain ⟨v0, vs0, d0, ds0, p0, q0, hargs, rfl, rfl, h0, r0⟩ := trodAll_cons hA
  obtain ⟨v1, vs1, d1, ds1, p1, q1, rfl, rfl, rfl, h1, r1⟩ := trodAll_cons r0
  obtain ⟨v2, vs2, d2, ds2, p2, q2, rfl, rfl, rfl, h2, r2⟩ := trodAll_cons r1
  obtain ⟨rfl, rfl, rfl⟩ := trodAll_nil r2
  obtain rfl : args = #[v0, v1, v2] := by cases args; simp_all
  obtain ⟨rfl, rfl⟩ := trodVars_none hV
  obtain ⟨a0, a1, rfl, rfl, rfl, wa0, wa1⟩ := open_arr2 Try.underlying32 Try.underlying3 c3 c32 (hval 0 32 v0 rfl rfl) h0
  obtain ⟨b0, b1, rfl, rfl, rfl, wb0, wb1⟩ := open_arr2 Try.underlying32 Try.underlying3 c3 c32 (hval 1 32 v1 rfl rfl) h1
  obtain ⟨u, v, rfl, rfl, rfl, wu, wv⟩ := open_arr2 Try.underlying33 Try.underlying22 c22 c33 (hval 2 33 v2 rfl rfl) h2
  clear hA0 hval0 hsz0
  refine (OwnApart.walk a0 a1 b0 b1 u v W (Pure.wfu wu).1 (Pure.wfu wv).1).mono fun e W' ⟨he, bel⟩ => ?_
  subst he
  exact ⟨_, rfl, _, _, _, [], _, [], hW', trodAll_mk1 (shut_bool Try.underlying4 _), (trodAll_cons_mk (shut_arr2 Try.underlying32 Try.underlying3 c3 c32 wa0 wa1) (trodAll_cons_mk (shut_arr2 Try.underlying32 Try.underlying3 c3 c32 wb0 wb1) (trodAll_cons_mk (shut_arr2 Try.underlying33 Try.underlying22 c22 c33 wu wv) trodAll_mk0))), rfl, bel.frame _, fun h => by cases h⟩
theorem over : Rows.slotApartRow.holds Try.pinned (OpenSpec.ofChange Rows.slotApartSpec) :=
  OpenClaim.holds_of_wide 7 Try.f7 rfl rfl rfl rfl rfl rfl rfl ⟨rfl, rfl, rfl, rfl, rfl⟩ rfl rfl rfl rfl rfl (by kernel_rfl) Try.func7 (by kernel_rfl)
    (of_decide_eq_true (by kernel_rfl)) (by unfold Func.isWrapper; first | (rw [if_pos (by decide +kernel)]; kernel_rfl) | (rw [if_neg (by decide +kernel)]; exact ⟨rfl, rfl⟩))
    (fun os started H enc _ => lifted os started H enc)
theorem proved : Rows.SlotApartSaid := over
#print axioms proved
end Go.Proofs.Ytpppcicbkdafeaa.slotApart
namespace Go.Proofs.Ytpppcicbkdafeaa
/-- The row, under a short name, for the claim. -/
theorem slotApart_holds : Rows.SlotApartSaid := slotApart.proved
end Go.Proofs.Ytpppcicbkdafeaa
