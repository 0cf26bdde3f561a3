/-
A law, of named inputs: what is to be shown of each way that it may go; functions that are known to say yes.
-/
import Derived.Test.YtlipgpeninlcdaaGreatZ18
namespace Go.Run
open Go.Eng Go.RowKit
set_option linter.unusedVariables false
set_option linter.unusedSimpArgs false
/-- What is to be shown of a run: on each way, what is known there, and what it says; none: it does not end so. -/
noncomputable def vcL : Lv → Option (List (List (X × Bool) × X))
  | [] => some []
  | (.val (.bool b), s) :: r => match vcL r with | some l => some ((s.m.pc, b) :: l) | none => none
  | (.pan, s) :: r => match vcL r with | some l => some ((s.m.pc, .bl false) :: l) | none => none
  | _ :: _ => none
noncomputable def vcO : Option Lv → Option (List (List (X × Bool) × X))
  | some l => vcL l
  | none => none
def VC (ρ : Rho) (l : List (List (X × Bool) × X)) : Prop := ∀ p ∈ l, PC ρ p.1 → (p.2.den ρ).b = true
theorem vcL_ok : ∀ {ls : Lv} {l : List (List (X × Bool) × X)}, vcL ls = some l → ∀ x ∈ ls, (∃ b, x.1 = .val (.bool b) ∧ (x.2.m.pc, b) ∈ l) ∨ (x.1 = .pan ∧ (x.2.m.pc, .bl false) ∈ l)
  | [], l, h, x, hx => by cases hx
  | (e, s) :: r, l, h, x, hx => by
    unfold vcL at h
    split at h <;> first | (cases h; done) | skip
    · rename_i heq
      cases heq
    · rename_i b s' r' heq
      cases heq
      split at h <;> first | (cases h; done) | skip
      rename_i l' hl
      cases h
      rcases List.mem_cons.1 hx with rfl | hx
      · exact .inl ⟨b, rfl, List.mem_cons_self⟩
      · exact (vcL_ok hl x hx).imp (fun ⟨b, h1, h2⟩ => ⟨b, h1, List.mem_cons_of_mem _ h2⟩) (fun ⟨h1, h2⟩ => ⟨h1, List.mem_cons_of_mem _ h2⟩)
    · rename_i s' r' heq
      cases heq
      split at h <;> first | (cases h; done) | skip
      rename_i l' hl
      cases h
      rcases List.mem_cons.1 hx with rfl | hx
      · exact .inr ⟨rfl, List.mem_cons_self⟩
      · exact (vcL_ok hl x hx).imp (fun ⟨b, h1, h2⟩ => ⟨b, h1, List.mem_cons_of_mem _ h2⟩) (fun ⟨h1, h2⟩ => ⟨h1, List.mem_cons_of_mem _ h2⟩)
section
variable {P : Program} {O : Ora} {ρ : Rho}
theorem run_law (hm : P.follows .mixedOrders = true) (hng : (P.funcs.toList.all fun fn => !(fn.name == "runtime.NumGoroutine")) = true) (hO : OraOK P O ρ) (f g : Nat) (xs : List V) {l : List (List (X × Bool) × X)} (h : vcO (go P O f (.call g xs ⟨.e, 0, [], []⟩)) = some l) (hv : VC ρ l) {us : List Value} (hx : VRs ⟨ρ, fun _ => none, fun _ => none⟩ xs us) (w : World) :
    Calls P g us.toArray w fun e w' => e = .returned (.bool true) ∧ Below w.heap.size w w' := by
  unfold vcO at h
  split at h <;> first | (cases h; done) | skip
  rename_i ls hgo
  obtain ⟨_, _, _, _, hF⟩ := snd_all hm (hng_of hng) hO f
  obtain ⟨x, hl, hpc, hr⟩ := hF g xs _ _ hgo (fun p hp => by cases hp)
  rcases vcL_ok h x hl with ⟨b, h1, h2⟩ | ⟨h1, h2⟩
  · have hb := hv _ h2 hpc
    rcases hr with hr | ⟨_, v, hv, _, k⟩
    · rw [h1] at hr; cases hr
    · rw [h1] at hv
      injection hv with hv
      subst hv
      refine k w ⟨ρ, fun _ => none, fun _ => none⟩ us w _ rfl hx ⟨Agree.refl _ _, fun b o hb => ?_, fun b g hb => (by cases hb), fun b b' g _ _ hb => (by cases hb)⟩ (fun b _ _ => ⟨rfl, rfl⟩) (fun E' u w' hn hu => ?_)
      · have hb : (PT.e : PT Ob).get b = some o := hb
        rw [PT.get_e] at hb
        cases hb
      · refine ⟨?_, hn.wr.agree.below⟩
        have hu : u = .bool (b.den E'.ρ).b := hu
        rw [hu, hn.ext.ρ]
        show Ending.returned (.bool (b.den ρ).b) = _
        rw [hb]
  · have := hv _ h2 hpc
    cases this
/-- Functions without arguments that say yes. -/
noncomputable def yes (l : List Nat) (g : Nat) (xs : List V) (m : Mm) : Option Lv := match xs, memN g l with
  | [], true => some [(.val (.bool (.bl true)), ⟨.nil, m⟩)]
  | _, _ => none
def YesOK (P : Program) (l : List Nat) : Prop := ∀ g ∈ l, (∃ fn, P.funcs[g]? = some fn ∧ fn.body.isNone = false) ∧ ∀ w, Calls P g #[] w fun e w' => e = .returned (.bool true) ∧ Below w.heap.size w w'
theorem nx_below {w0 : World} {E : Env} {H : Nat → Option Ob} {w w' : World} (hw : Wr w0 E H w) (h : Below w.heap.size w w') (c : Nat) (wl : List Nat) : Nx w0 E H c w E H c wl w' := by
  have ha : Agree [] w w' := Agree.of_below h
  refine ⟨Ext.refl E, ⟨agree0 hw (by simp) ha, fun b o hb => ?_, fun b g hb => ?_, hw.inj⟩, ha.size, fun _ _ h => .inl h, fun _ _ h => .inl h, fun g hg _ => ha.frame g hg (by simp), fun _ _ _ => rfl, fun _ h => .inl h⟩
  · obtain ⟨g, obj, h1, h2, h3⟩ := hw.lr b o hb
    exact ⟨g, obj, h1, (ha.frame g (Array.getElem?_eq_some_iff.1 h2).1 (by simp)).trans h2, h3⟩
  · have := hw.own b g hb
    have := ha.size
    exact ⟨by omega, by omega⟩
theorem yes_ok {l : List Nat} (h : YesOK P l) (nv : Nat → Nat) : OraOK P ⟨yes l, nv⟩ ρ := by
  intro g xs m ls hy hp
  have hy : yes l g xs m = some ls := hy
  unfold yes at hy
  cases hg : memN g l with
  | false => rw [hg] at hy; cases xs <;> cases hy
  | true =>
  rw [hg] at hy
  cases xs with
  | cons _ _ => cases hy
  | nil =>
  cases hy
  obtain ⟨h1, h2⟩ := h g (memN_ok.1 hg)
  refine Good.one hp (Sta.refl m) ⟨_, rfl, h1, fun w0 E us w K hρ hx hw hf hK => ?_⟩
  rw [show us = [] from hx]
  refine (h2 w).mono ?_
  rintro e w' ⟨rfl, hb⟩
  exact hK E _ w' (nx_below hw hb _ _) rfl
end
end Go.Run
