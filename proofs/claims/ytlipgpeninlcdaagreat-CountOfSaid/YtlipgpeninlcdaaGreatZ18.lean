/-
A run of code is what the code does.
-/
import Derived.Test.YtlipgpeninlcdaaGreatZ17
namespace Go.Run
open Go.Eng Go.RowKit
set_option linter.unusedVariables false
set_option linter.unusedSimpArgs false
section
variable {P : Program} {O : Ora} {ρ : Rho} {f : Nat}
/-- A function's frame in memory, and the caller's. -/
theorem nx_uni {w0 : World} {E E' : Env} {m m' : Mm} {w w' : World} (hw : Wr w0 E m.H.get w) (hf : Fresh E m.c m'.c) (h : Nx w0 E m.H.get m.c w E' m'.H.get m'.c m'.wl w') (wl : List Nat) : Nx w0 E m.H.get m.c w E' m'.H.get m'.c (uni m.c m'.c m'.wl wl) w' := by
  have key : ∀ b ∈ m'.wl, m.H.get b ≠ none → b ∈ uni m.c m'.c m'.wl wl := fun b hb hl => by
    refine uni_iff.2 (.inl ⟨hb, fun ⟨h1, h2⟩ => ?_⟩)
    cases e : m.H.get b with
    | none => exact hl e
    | some o =>
      obtain ⟨g, _, hg, _⟩ := hw.lr b o e
      rw [(hf b h1 h2).1] at hg
      cases hg
  refine ⟨h.ext, h.wr, h.size, fun b g hb => ?_, h.kap, fun g hg hn => h.keep g hg (fun b hb hl => hn b (key b hb hl) hl), fun b hb hr => ?_, h.live⟩
  · rcases h.nu b g hb with h1 | ⟨h1, h2, h3⟩
    · exact .inl h1
    · refine .inr ⟨h1, h2, h3.imp id (fun ⟨b0, h4, h5, h6⟩ => ⟨b0, key b0 h4 h5, h5, h6⟩)⟩
  · refine h.same b (fun hm => hb (uni_iff.2 (.inl ⟨hm, by omega⟩))) hr
theorem sta_uni {m m' : Mm} (h : Sta ⟨m.H, m.c, [], m.pc⟩ m') : Sta m ⟨m'.H, m'.c, uni m.c m'.c m'.wl m.wl, m'.pc⟩ := by
  refine ⟨h.le, fun b hb => uni_iff.2 (.inr hb), fun b hb => ?_, h.live, fun b hb hr => h.same b (fun hm => hb (uni_iff.2 (.inl ⟨hm, ?_⟩))) hr⟩
  · rcases uni_iff.1 hb with ⟨h1, h2⟩ | h1
    · rcases h.wlive b h1 with h3 | h3 | h3
      · cases h3
      · exact .inr (.inl h3)
      · exact .inr (.inr h3)
    · exact .inl h1
  · have hr : b < m.c ∨ m'.c ≤ b := hr
    omega
theorem go_call (g : Nat) (xs : List V) (m : Mm) : go P O (f + 1) (.call g xs m) = match O.f g xs m with
    | some l => some l
    | none => match P.funcs[g]? with
      | some fn => match fn.body, Nat.ble (ln xs) fn.ntmps with
        | some body, true => match go P O f (.code fn.ntmps body ⟨enumV 0 xs ⟨O.nv g, .e, []⟩, ⟨m.H, m.c, [], m.pc⟩⟩) with
          | some l => bindL (fun e s => match e with
            | .ret => (match rvs P s.F s.m.H fn.results.toList with | some vs => some [(.val (packR vs), ⟨.nil, ⟨s.m.H, s.m.c, uni m.c s.m.c s.m.wl m.wl, s.m.pc⟩⟩)] | none => none)
            | .nx => (match rvs P s.F s.m.H fn.results.toList with | some vs => some [(.val (packR vs), ⟨.nil, ⟨s.m.H, s.m.c, uni m.c s.m.c s.m.wl m.wl, s.m.pc⟩⟩)] | none => none)
            | .pan => some [(.pan, s)]
            | _ => none) l
          | none => none
        | _, _ => none
      | none => none := rfl
theorem sf_step (hO : OraOK P O ρ) (hC : SC P O ρ f) : SF P O ρ (f + 1) := by
  intro g xs m ls h hp
  rw [go_call] at h
  split at h
  · rename_i l hl
    cases h
    exact hO _ _ _ _ hl hp
  · split at h <;> first | (cases h; done) | skip
    rename_i fn hfn
    split at h <;> first | (cases h; done) | skip
    rename_i body hbd hlen
    have hlen := Nat.le_of_ble_eq_true hlen
    rw [ln_eq] at hlen
    split at h <;> first | (cases h; done) | skip
    rename_i l hgo
    refine (hC _ _ _ _ hgo hp).bind h (fun s r hr => by cases hr; rfl) (fun e s1 rs hk hp1 S1 hrc => ?_)
    have main : (e = .ret ∨ e = .nx) → (match rvs P s1.F s1.m.H fn.results.toList with | some vs => some [(Ex.val (packR vs), (⟨.nil, ⟨s1.m.H, s1.m.c, uni m.c s1.m.c s1.m.wl m.wl, s1.m.pc⟩⟩ : St))] | none => none) = some rs → Good ρ m rs (RF P ρ g xs m) := by
      intro he hres
      split at hres <;> first | (cases hres; done) | skip
      rename_i vs hvs
      cases hres
      refine Good.one hp1 (sta_uni S1) ⟨_, rfl, ⟨fn, hfn, by rw [hbd]; rfl⟩, fun w0 E us w K hρ hx hw hf hK => ?_⟩
      refine Calls.mono (R := fun e w' => (∃ u, e = .returned u) ∧ K e w') ?_ (fun e w h => h.2)
      refine calls_of_wp hfn hbd ?_
      refine hrc w0 E _ w _ hρ ⟨_, fr0 (by rw [hx.len]; exact hlen), frame0 (O.nv g) hx⟩ hw hf ⟨fun ch a w hq => ?_, fun a w hq => ?_⟩ (fun E' a' w' hn hfa => ?_)
      · obtain ⟨_, ⟨u, hu⟩, _⟩ := hq
        cases hu
      · obtain ⟨⟨u, hu⟩, _⟩ := hq
        cases hu
      · obtain ⟨FL, hfr, hF'⟩ := hfa
        obtain ⟨u, q1, q2⟩ := results_ok (fn := fn) hF' hfr hn.wr hvs
        have hK' := hK E' u w' (nx_uni (m := ⟨m.H, m.c, [], m.pc⟩) (m' := s1.m) hw hf hn m.wl) q2
        rcases he with rfl | rfl
        · exact ⟨hfr.defers, u, q1, ⟨u, rfl⟩, hK'⟩
        · exact ⟨hfr.defers, u, q1, ⟨u, rfl⟩, hK'⟩
    cases e with
    | ret => exact main (.inl rfl) hk
    | nx => exact main (.inr rfl) hk
    | pan => cases hk; exact Good.pan hp1
    | ex i => cases hk
    | val v => cases hk
theorem go_seq (n : Nat) (a b : Code) (s : St) : go P O (f + 1) (.code n (.seq a b) s) = match go P O f (.code n a s) with
      | some l => bindL (fun e s' => match e with | .nx => go P O f (.code n b s') | e => some [(e, s')]) l
      | none => none := rfl
theorem go_cond (n : Nat) (x : Operand) (a b : Code) (s : St) : go P O (f + 1) (.code n (.cond x a b) s) = match eo s.F x with
      | some (.bool e) => dec s.m.pc e (fun t pc => match t with
        | true => go P O f (.code n a ⟨s.F, s.m.wpc pc⟩)
        | false => go P O f (.code n b ⟨s.F, s.m.wpc pc⟩))
      | _ => none := rfl
theorem go_block (n i : Nat) (a : Code) (s : St) : go P O (f + 1) (.code n (.block i a) s) = match go P O f (.code n a s) with
      | some l => bindL (fun e s' => match e with
        | .ex j => (match Nat.beq j i with | true => some [(.nx, s')] | false => some [(.ex j, s')])
        | e => some [(e, s')]) l
      | none => none := rfl
theorem go_loop (n : Nat) (a : Code) (s : St) : go P O (f + 1) (.code n (.loop a) s) = match go P O f (.code n a s) with
      | some l => bindL (fun e s' => match e with | .nx => go P O f (.code n (.loop a) s') | e => some [(e, s')]) l
      | none => none := rfl
theorem go_rord (n i : Nat) (ops : Array Oper) (s : St) : go P O (f + 1) (.code n (.region i ops false) s) = go P O f (.ord n ops.toList ops.toList ⟨s.F.fresh, s.m⟩) := rfl
theorem go_rany (n i : Nat) (ops : Array Oper) (s : St) : go P O (f + 1) (.code n (.region i ops true) s) = match Region.noSelect ops with
      | true => go P O f (.reg n ops.toList ops.toList [] ⟨clean ops.toList s.F.fresh, s.m⟩)
      | false => none := rfl
theorem sl_step (hC : SC P O ρ f) (hL : SL P O ρ f) : SL P O ρ (f + 1) := by
  intro n c s ls h hp
  rw [go_loop] at h
  split at h <;> first | (cases h; done) | skip
  rename_i l h1
  refine (hC _ _ _ _ h1 hp).bind h (fun s r hr => by cases hr; rfl) (fun e s1 rs hk hp1 S1 hrc => ?_)
  cases e with
  | nx =>
    refine ((hL _ _ _ _ hk hp1).mono (fun e2 s2 S2 hrc2 => ?_)).from S1
    exact hrc.seq S1 hrc2 S2 (fun Q a w h => by rw [rounds_succ]; exact h)
  | pan => cases hk; exact Good.pan hp1
  | ret =>
    cases hk
    exact Good.one hp1 S1 (hrc.early (K := fun Q a w => Code.rounds P c Q f a w) (by simp) (fun Q a w h => by rw [rounds_succ]; exact h))
  | ex i =>
    cases hk
    exact Good.one hp1 S1 (hrc.early (K := fun Q a w => Code.rounds P c Q f a w) (by simp) (fun Q a w h => by rw [rounds_succ]; exact h))
  | val v =>
    cases hk
    exact Good.one hp1 S1 (hrc.early (K := fun Q a w => Code.rounds P c Q f a w) (by simp) (fun Q a w h => by rw [rounds_succ]; exact h))
theorem drew_wr {w0 : World} {E : Env} {H : Nat → Option Ob} {w : World} (h : Wr w0 E H w) : Wr w0 E H { w with drawn := w.drawn + 1 } :=
  ⟨⟨h.agree.os, h.agree.tape, h.agree.output, h.agree.size, h.agree.frame⟩, h.lr, h.own, h.inj⟩
theorem FD_no {D : Nat → Bool} {F0 : Nat → Option V} : ∀ {es : List En} {t : Nat}, (∀ i, i < es.length → D i = false) → FD D F0 es t = F0 t
  | [], t, _ => rfl
  | e :: r, t, h => by
    show (if D r.length = true ∧ e.r.dst = some t then some e.v else FD D F0 r t) = _
    rw [if_neg (by rw [h r.length (by simp)]; simp), FD_no (fun i hi => h i (by simp; omega))]
theorem HD_no {D : Nat → Bool} {H0 : Nat → Option Ob} : ∀ {es : List En} {t : Nat}, (∀ i, i < es.length → D i = false) → HD D H0 es t = H0 t
  | [], t, _ => rfl
  | e :: r, t, h => by
    show (if D r.length = true ∧ Tch e.r t then e.K.get t else HD D H0 r t) = _
    rw [if_neg (by rw [h r.length (by simp)]; simp), HD_no (fun i hi => h i (by simp; omega))]
theorem region_any (hm : P.follows .mixedOrders = true) (hA : SA P O ρ f) {n i : Nat} {ops : Array Oper} {s : St} {ls : Lv} (hns : Region.noSelect ops = true) (h : go P O f (.reg n ops.toList ops.toList [] ⟨clean ops.toList s.F.fresh, s.m⟩) = some ls) (hp : PC ρ s.m.pc) : Good ρ s.m ls (RC ρ n s.F s.m ((Code.region i ops true).wp P)) := by
  obtain ⟨q1, q2⟩ := clean_ok (l := ops.toList) (F := s.F.fresh)
  refine (hA n ops s.m (clean ops.toList s.F.fresh).get [] ⟨clean ops.toList s.F.fresh, s.m⟩ ls h hp .nil (fun t => rfl) (fun b => rfl) rfl rfl).mono (fun e s' S ⟨he, es, ht, hlen, hF, hH, hc, hwl⟩ => ?_)
  subst he
  intro w0 E a w Q hρ hfa hw hf np hto
  refine wp_region_any hm ?_
  rw [hc] at hf
  have hlt : ∀ i, i < ops.size → (Array.replicate ops.size false).getD i true = false := fun i hi => by
    rw [Array.getD_eq_getD_getElem?, Array.getElem?_replicate, if_pos hi]; rfl
  refine reg_all (w0 := w0) (ws := { w with drawn := w.drawn + 1 }) (E0 := E) (wl0 := s.m.wl) ht hlen (fun b hb ⟨h1, h2⟩ => ?_) hf (fun i o t ho hd => q2 o (by rw [Array.mem_toList_iff]; exact Array.mem_of_getElem? ho) t hd) (fun E' a' w' hr => ?_) ops.size (Array.replicate ops.size false) (List.range ops.size) E a _ (by simp) List.nodup_range (by simp) (fun i hi => by rw [hlt i hi]; simp [hi]) (fun i hi => by simpa using hi) (fun k e hk hD => ?_) ?_
  · cases e : s.m.H.get b with
    | none => exact hb e
    | some o =>
      obtain ⟨g, _, hg, _⟩ := hw.lr b o e
      rw [(hf b h1 h2).1] at hg
      cases hg
  · have eH : HD All s.m.H.get es = s'.m.H.get := funext fun b => (hH b).symm
    have hn := hr.nx
    rw [eH, ← hc, ← hwl] at hn
    refine hto E' a' w' ⟨hn.ext, hn.wr, hn.size, hn.nu, hn.kap, hn.keep, hn.same, hn.live⟩ ?_
    obtain ⟨FL, h1, h2⟩ := hr.fa
    exact ⟨FL, h1, fun t v hv => h2 t v (by rw [← hF]; exact hv)⟩
  · have := atI_lt hk
    have h1 := hlt k (by omega)
    have h2 : (Array.replicate ops.size false).getD k true = true := hD
    rw [h1] at h2
    cases h2
  · have hno : ∀ i, i < es.length → (fun i => (Array.replicate ops.size false).getD i true) i = false := fun i hi => hlt i (by omega)
    obtain ⟨FL, h1, h2⟩ := hfa
    have eH : HD (fun i => (Array.replicate ops.size false).getD i true) s.m.H.get es = s.m.H.get := funext fun b => HD_no hno
    refine ⟨hρ, ⟨FL, h1, fun t v hv => ?_⟩, ?_, fun i e hi _ => ?_⟩
    · rw [FD_no hno] at hv
      exact h2 t v (Fm.get_fresh (q1 t v hv))
    · rw [eH]
      exact ⟨Ext.refl E, drew_wr hw, Nat.le_refl _, fun b g hb => .inl hb, fun i k hi => .inl hi, fun _ _ _ => rfl, fun _ _ _ => rfl, fun b hb => .inl hb⟩
    · have := at_c ht hi
      exact hf.sub (by omega) (by omega)
theorem sc_step (hm : P.follows .mixedOrders = true) (hC : SC P O ρ f) (hL : SL P O ρ (f + 1)) (hO : SO P O ρ f) (hA : SA P O ρ f) : SC P O ρ (f + 1) := by
  intro n c s ls h hp
  have self : ∀ {e : Ex} {W : WP}, (∀ Q a w, Qx e Q a w → W Q a w) → Good ρ s.m [(e, s)] (RC ρ n s.F s.m W) := fun hW => Good.one hp (Sta.refl _) (fun w0 E a w Q hρ hfa hw hf np hto => hW Q a w (hto E a w (Nx.refl hw _ _) hfa))
  cases c with
  | skip => cases h; exact self (fun Q a w h => wp_skip h)
  | ret => cases h; exact self (fun Q a w h => wp_ret h)
  | exit i => cases h; exact self (fun Q a w h => wp_exit h)
  | label l => cases h; exact self (fun Q a w h => wp_label h)
  | seq x y =>
    rw [go_seq] at h
    split at h <;> first | (cases h; done) | skip
    rename_i l h1
    refine (hC _ _ _ _ h1 hp).bind h (fun s r hr => by cases hr; rfl) (fun e s1 rs hk hp1 S1 hrc => ?_)
    cases e with
    | nx => exact ((hC _ _ _ _ hk hp1).mono (fun e2 s2 S2 hrc2 => hrc.seq S1 hrc2 S2 (fun Q a w h => wp_seq h))).from S1
    | pan => cases hk; exact Good.pan hp1
    | ret => cases hk; exact Good.one hp1 S1 (hrc.early (K := fun Q a w => y.wp P Q a w) (by simp) (fun Q a w h => wp_seq h))
    | ex i => cases hk; exact Good.one hp1 S1 (hrc.early (K := fun Q a w => y.wp P Q a w) (by simp) (fun Q a w h => wp_seq h))
    | val v => cases hk; exact Good.one hp1 S1 (hrc.early (K := fun Q a w => y.wp P Q a w) (by simp) (fun Q a w h => wp_seq h))
  | cond x y z =>
    rw [go_cond] at h
    split at h <;> first | (cases h; done) | skip
    rename_i e hx
    obtain ⟨pc', rs', h1, h2, h3⟩ := dec_ok h hp
    refine Good.sub ?_ h3
    have ev : ∀ {E : Env} {a : Act} {FL : Eng.FL}, E.ρ = ρ → Fr ⟨n, []⟩ a FL → FRel E s.F FL → a.eval x = .bool (e.den ρ).b := fun hρ hfr hF => by
      obtain ⟨u, e1, r⟩ := eo_ok hF hx
      rw [hfr.ev e1, show u = .bool (e.den _).b from r, hρ]
    cases hb : (e.den ρ).b with
    | true =>
      rw [hb] at h1
      refine ((hC _ _ _ _ h1 h2).mono (fun e2 s2 S2 hrc => ?_)).from (Sta.wpc _ _)
      intro w0 E a w Q hρ hfa hw hf np hto
      have hev := ev hρ hfa.choose_spec.1 hfa.choose_spec.2
      rw [hb] at hev
      exact wp_cond_split hev (fun _ => hrc w0 E a w Q hρ hfa hw hf np hto) (fun e => by cases e)
    | false =>
      rw [hb] at h1
      refine ((hC _ _ _ _ h1 h2).mono (fun e2 s2 S2 hrc => ?_)).from (Sta.wpc _ _)
      intro w0 E a w Q hρ hfa hw hf np hto
      have hev := ev hρ hfa.choose_spec.1 hfa.choose_spec.2
      rw [hb] at hev
      exact wp_cond_split hev (fun e => by cases e) (fun _ => hrc w0 E a w Q hρ hfa hw hf np hto)
  | block i x =>
    rw [go_block] at h
    split at h <;> first | (cases h; done) | skip
    rename_i l h1
    refine (hC _ _ _ _ h1 hp).bind h (fun s r hr => by cases hr; rfl) (fun e s1 rs hk hp1 S1 hrc => ?_)
    have fin : ∀ e', (∀ Q a w, Qx e' Q a w → Qx e (Exit.inBlock i Q) a w) → RC ρ n s.F s.m ((Code.block i x).wp P) e' s1 := by
      intro e' he' w0 E a w Q hρ hfa hw hf np hto
      exact wp_block (hrc w0 E a w _ hρ hfa hw hf (np_block np) (fun E' a' w' hn hfa' => he' Q a' w' (hto E' a' w' hn hfa')))
    cases e with
    | ex j =>
      dsimp only at hk
      split at hk
      · rename_i hj
        have hj := Nat.eq_of_beq_eq_true hj
        cases hk
        exact Good.one hp1 S1 (fin .nx (fun Q a w h => by show Exit.inBlock i Q (.exit j) a w; simp only [Exit.inBlock, hj, if_true]; exact h))
      · rename_i hj
        have hj := beq_f.1 hj
        cases hk
        exact Good.one hp1 S1 (fin (.ex j) (fun Q a w h => by show Exit.inBlock i Q (.exit j) a w; simp only [Exit.inBlock, hj, if_false]; exact h))
    | nx => cases hk; exact Good.one hp1 S1 (fin .nx (fun Q a w h => h))
    | ret => cases hk; exact Good.one hp1 S1 (fin .ret (fun Q a w h => h))
    | val v => cases hk; exact Good.one hp1 S1 (fin (.val v) (fun Q a w h => h))
    | pan => cases hk; exact Good.pan hp1
  | scope x =>
    have h : go P O f (.code n x s) = some ls := h
    refine (hC _ _ _ _ h hp).mono (fun e s1 S1 hrc => ?_)
    intro w0 E a w Q hρ hfa hw hf np hto
    refine wp_scope_straight ?_
    refine hrc w0 E a w _ hρ hfa hw hf ⟨fun c a w hq => np.1 c a w hq, fun a w hq => np.2 a w hq⟩ (fun E' a' w' hn hfa' => ?_)
    have := hto E' a' w' hn hfa'
    cases e <;> exact this
  | loop x =>
    refine (hL _ _ _ _ h hp).mono (fun e s1 S1 hrc => ?_)
    intro w0 E a w Q hρ hfa hw hf np hto
    exact wp_loop_rounds _ (hrc w0 E a w Q hρ hfa hw hf np hto)
  | region i ops any =>
    cases any with
    | false =>
      rw [go_rord] at h
      refine (hO n ops 0 ⟨s.F.fresh, s.m⟩ ls (by rw [List.drop_zero]; exact h) hp).mono (fun e s1 S1 ⟨he, hrc⟩ => ?_)
      intro w0 E a w Q hρ hfa hw hf np hto
      refine wp_region ?_
      have := hrc w0 E a w Q hρ (by obtain ⟨FL, h1, h2⟩ := hfa; exact ⟨FL, h1, fun t v hv => h2 t v (Fm.get_fresh hv)⟩) hw hf np hto
      rw [Nat.sub_zero, ← List.range_eq_range'] at this
      exact this
    | true =>
      rw [go_rany] at h
      split at h <;> first | (cases h; done) | skip
      rename_i hns
      exact region_any hm hA hns h hp
  | _ => exact absurd (show (none : Option Lv) = _ from h) (by simp)
theorem snd_all (hm : P.follows .mixedOrders = true) (hng : ∀ (g : Nat) (fn : Func), P.funcs[g]? = some fn → (fn.name == "runtime.NumGoroutine") = false) (hO : OraOK P O ρ) : ∀ f, SC P O ρ f ∧ SL P O ρ f ∧ SO P O ρ f ∧ SA P O ρ f ∧ SF P O ρ f
  | 0 => ⟨fun _ _ _ _ h => (by cases h), fun _ _ _ _ h => (by cases h), fun _ _ _ _ _ h => (by cases h), fun _ _ _ _ _ _ _ h => (by cases h), fun _ _ _ _ h => (by cases h)⟩
  | f + 1 => by
    obtain ⟨h1, h2, h3, h4, h5⟩ := snd_all hm hng hO f
    have hl := sl_step h1 h2
    exact ⟨sc_step hm h1 hl h3 h4, hl, so_step hng h3 h5, sa_step hng h4 h5, sf_step hO h1⟩
noncomputable def noO (nv : Nat → Nat) : Ora := ⟨fun _ _ _ => none, nv⟩
theorem noO_ok {nv : Nat → Nat} : OraOK P (noO nv) ρ := fun _ _ _ _ h => by cases h
theorem hng_of (hng : (P.funcs.toList.all fun fn => !(fn.name == "runtime.NumGoroutine")) = true) : ∀ (g : Nat) (fn : Func), P.funcs[g]? = some fn → (fn.name == "runtime.NumGoroutine") = false := fun g fn hg => by
  have := List.all_eq_true.1 hng fn (by rw [Array.mem_toList_iff]; exact Array.mem_of_getElem? hg)
  simpa using this
noncomputable def isT : Option Lv → Bool
  | some [(.val (.bool (.bl true)), _)] => true
  | _ => false
/-- A closed function that says yes. -/
theorem run_true (hm : P.follows .mixedOrders = true) (hng : (P.funcs.toList.all fun fn => !(fn.name == "runtime.NumGoroutine")) = true) (hO : OraOK P O rho0) (f g : Nat) (h : isT (go P O f (.call g [] ⟨.e, 0, [], []⟩)) = true) (w : World) : Calls P g #[] w fun e w' => e = .returned (.bool true) ∧ Below w.heap.size w w' := by
  unfold isT at h
  split at h <;> first | (cases h; done) | skip
  rename_i s' hgo
  obtain ⟨_, _, _, _, hF⟩ := snd_all hm (hng_of hng) hO f
  obtain ⟨l, hl, _, hr⟩ := hF g [] _ _ hgo (fun p hp => by cases hp)
  rw [List.mem_singleton] at hl
  subst hl
  rcases hr with hr | ⟨_, v, hv, _, k⟩
  · cases hr
  · injection hv with hv
    subst hv
    refine k w ⟨rho0, fun _ => none, fun _ => none⟩ [] w _ rfl rfl ⟨Agree.refl _ _, fun b o hb => ?_, fun b g hb => (by cases hb), fun b b' g _ _ hb => (by cases hb)⟩ (fun b _ _ => ⟨rfl, rfl⟩) (fun E' u w' hn hu => ?_)
    · have hb : (PT.e : PT Ob).get b = some o := hb
      rw [PT.get_e] at hb
      cases hb
    · exact ⟨by rw [show u = .bool true from hu], hn.wr.agree.below⟩
end
end Go.Run
