/-
Own text, put together by an own program (shake.py) out of this claim's texts: what its theorem needs of them.
-/
import Derived.Test.YtbonlagecjealaaA2
import Derived.Lib.AppendZeros
import Derived.Deep.Upon
import Derived.WalkSpells
import Derived.Lib.BufferMore
import Derived.Test.YtbonlagecjealaaProg
import Derived.Below
import Derived.Deep.Draws
import Derived.Deep.AppendLies
import Derived.Maps.AppendAt
import Derived.OwnWalk
import Derived.Laws.BytesArg
import Derived.Laws.MakeOwn
import Derived.Laws.OwnMore
import Derived.Deep.OwnRows
import Derived.Tactics
import Derived.Lib.ConvBytes
import Derived.Laws.Slices
import Derived.WalkKit
import Derived.KernelRfl
import Derived.RowKit3
import Derived.Deep.LoopGhost
import Derived.Deep.QuietTactic
import Derived.BigQuiet
import Derived.WideLaws
import Derived.Deep.DeepCutAuto
import Derived.Deep.CutBlock
import Derived.Deep.RegionHeld3
import Derived.Laws.Rows
import Derived.Lib.AppendStr
import Derived.ArgAppend
import Derived.Laws.IdiomCopy
import Derived.OrdersHeld
import Derived.Laws.BitsLemmas
import Derived.RowKit
import Derived.Lib.Hide
import Derived.Deep.RegionLaw
import Derived.Deep.RegionLawGrows
import Derived.OwnWalkIn
namespace Go.Run
open Go.Eng Go.RowKit
set_option linter.unusedVariables false
set_option linter.unusedSimpArgs false
noncomputable def outL : Lv → Option (List (List (X × Bool) × Option V))
  | [] => some []
  | (.val v, s) :: r => match outL r with | some l => some ((s.m.pc, some v) :: l) | none => none
  | (.pan, s) :: r => match outL r with | some l => some ((s.m.pc, none) :: l) | none => none
  | _ :: _ => none
noncomputable def outO : Option Lv → Option (List (List (X × Bool) × Option V))
  | some l => outL l
  | none => none
theorem outL_ok : ∀ {ls : Lv} {l : List (List (X × Bool) × Option V)}, outL ls = some l → ∀ x ∈ ls, (∃ v, x.1 = .val v ∧ (x.2.m.pc, some v) ∈ l) ∨ (x.1 = .pan ∧ (x.2.m.pc, none) ∈ l)
  | [], l, h, x, hx => by cases hx
  | (e, s) :: r, l, h, x, hx => by
    unfold outL at h
    split at h <;> first | (cases h; done) | skip
    · rename_i heq
      cases heq
    · rename_i b s' r' heq
      cases heq
      split at h <;> first | (cases h; done) | skip
      rename_i l' hl
      cases h
      rcases List.mem_cons.1 hx with rfl | hx
      · exact .inl ⟨b, rfl, List.mem_cons_self⟩
      · exact (outL_ok hl x hx).imp (fun ⟨b, h1, h2⟩ => ⟨b, h1, List.mem_cons_of_mem _ h2⟩) (fun ⟨h1, h2⟩ => ⟨h1, List.mem_cons_of_mem _ h2⟩)
    · rename_i s' r' heq
      cases heq
      split at h <;> first | (cases h; done) | skip
      rename_i l' hl
      cases h
      rcases List.mem_cons.1 hx with rfl | hx
      · exact .inr ⟨rfl, List.mem_cons_self⟩
      · exact (outL_ok hl x hx).imp (fun ⟨b, h1, h2⟩ => ⟨b, h1, List.mem_cons_of_mem _ h2⟩) (fun ⟨h1, h2⟩ => ⟨h1, List.mem_cons_of_mem _ h2⟩)
theorem run_outs {P : Program} {O : Ora} {ρ : Rho} (hm : P.follows .mixedOrders = true) (hng : (P.funcs.toList.all fun fn => !(fn.name == "runtime.NumGoroutine")) = true) (hO : OraOK P O ρ) (f g : Nat) (xs : List V) {l : List (List (X × Bool) × Option V)} (h : outO (go P O f (.call g xs ⟨.e, 0, [], []⟩)) = some l) {us : List Value} (hx : VRs ⟨ρ, fun _ => none, fun _ => none⟩ xs us) :
    ∃ p ∈ l, PC ρ p.1 ∧ ∀ v, p.2 = some v → ∀ w, Calls P g us.toArray w fun e w' => ∃ E u, E.ρ = ρ ∧ VR E v u ∧ e = .returned u ∧ Below w.heap.size w w' := by
  unfold outO at h
  split at h <;> first | (cases h; done) | skip
  rename_i ls hgo
  obtain ⟨_, _, _, _, hF⟩ := snd_all hm (hng_of hng) hO f
  obtain ⟨x, hl, hpc, hr⟩ := hF g xs _ _ hgo (fun p hp => by cases hp)
  rcases outL_ok h x hl with ⟨b, h1, h2⟩ | ⟨h1, h2⟩
  · refine ⟨_, h2, hpc, fun v hv w => ?_⟩
    cases hv
    rcases hr with hr | ⟨_, v, hv, _, k⟩
    · rw [h1] at hr; cases hr
    · rw [h1] at hv
      injection hv with hv
      subst hv
      refine k w ⟨ρ, fun _ => none, fun _ => none⟩ us w _ rfl hx ⟨Agree.refl _ _, fun b o hb => ?_, fun b g hb => (by cases hb), fun b b' g _ _ hb => (by cases hb)⟩ (fun b _ _ => ⟨rfl, rfl⟩) (fun E' u w' hn hu => ?_)
      · have hb : (PT.e : PT Ob).get b = some o := hb
        rw [PT.get_e] at hb
        cases hb
      · exact ⟨E', u, hn.ext.ρ, hu, rfl, hn.wr.agree.below⟩
  · exact ⟨_, h2, hpc, fun v hv => (by cases hv)⟩
noncomputable def rhoL (l : List Dn) : Rho := ⟨fun i => l.getD i (dI 0), fun _ a => a, fun _ a _ => a, fun _ a _ _ => a⟩
end Go.Run
