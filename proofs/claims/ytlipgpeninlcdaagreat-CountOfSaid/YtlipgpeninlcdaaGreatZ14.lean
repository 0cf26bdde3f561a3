/-
Operations in whatever order: one more of them; all of them.
-/
import Derived.Test.YtlipgpeninlcdaaGreatZ13
namespace Go.Run
open Go.Eng
set_option linter.unusedVariables false
set_option linter.unusedSimpArgs false
noncomputable def add (D : Nat → Bool) (j : Nat) : Nat → Bool := fun i => if i = j then true else D i
section
variable {P : Program} {ρ : Rho} {n : Nat} {ops : Array Oper} {F0 : Nat → Option V} {H0 : Nat → Option Ob} {c0 : Nat} {wl0 : List Nat}
theorem HD_congr {D D' : Nat → Bool} : ∀ {es : List En} {b : Nat}, (∀ i, i < es.length → D i = D' i) → HD D H0 es b = HD D' H0 es b
  | [], b, h => rfl
  | e :: r, b, h => by
    unfold HD
    rw [h r.length (by simp), HD_congr (es := r) (fun i hi => h i (by simp; omega))]
theorem FD_congr {D D' : Nat → Bool} : ∀ {es : List En} {t : Nat}, (∀ i, i < es.length → D i = D' i) → FD D F0 es t = FD D' F0 es t
  | [], b, h => rfl
  | e :: r, b, h => by
    unfold FD
    rw [h r.length (by simp), FD_congr (es := r) (fun i hi => h i (by simp; omega))]
theorem atI_mid {q r : List En} {e : En} : atI (q ++ e :: r) r.length = some e := by
  rw [atI_app (by simp)]
  unfold atI
  rw [if_pos rfl]
theorem atI_self {e : En} {r : List En} : atI (e :: r) r.length = some e := by
  unfold atI
  rw [if_pos rfl]
theorem HD_add {D : Nat → Bool} {e : En} {r : List En} (hD : D r.length = false) {b : Nat} : ∀ {q : List En}, Tr P ρ n ops F0 H0 c0 (q ++ e :: r) → Apart H0 c0 (cAt c0 (q ++ e :: r)) → Cl (q ++ e :: r) D →
    HD (add D r.length) H0 (q ++ e :: r) b = if Tch e.r b then e.K.get b else HD D H0 (q ++ e :: r) b
  | [], h, ha, hc => by
    show HD _ H0 (e :: r) b = if Tch e.r b then e.K.get b else HD D H0 (e :: r) b
    have h1 : HD D H0 (e :: r) b = HD D H0 r b := by
      show (if D r.length = true ∧ Tch e.r b then e.K.get b else HD D H0 r b) = _
      rw [if_neg (by rw [hD]; simp)]
    have h2 : HD (add D r.length) H0 (e :: r) b = if Tch e.r b then e.K.get b else HD (add D r.length) H0 r b := by
      show (if add D r.length r.length = true ∧ Tch e.r b then e.K.get b else HD _ H0 r b) = _
      have : add D r.length r.length = true := if_pos rfl
      rw [this]
      simp
    rw [h1, h2, HD_congr (D := add D r.length) (D' := D) (fun i hi => if_neg (by omega))]
  | ek :: q, h, ha, hc => by
    cases h with
    | cons h1 h2 =>
      have h1 : EnOK P ρ n ops F0 H0 c0 ek (q ++ e :: r) := h1
      have h2 : Tr P ρ n ops F0 H0 c0 (q ++ e :: r) := h2
      have hle : cAt c0 (q ++ e :: r) ≤ ek.r.c' := by have := h1.c; have := h1.cc; omega
      have ih := HD_add hD (b := b) (q := q) h2 (fun x hx hr => ha x hx ⟨hr.1, by show x < ek.r.c'; omega⟩) (fun k ek hk hD => hc k ek (atI_cons hk) hD)
      have hk : add D r.length (q ++ e :: r).length = D (q ++ e :: r).length := if_neg (by simp; omega)
      show (if add D r.length (q ++ e :: r).length = true ∧ Tch ek.r b then ek.K.get b else HD _ H0 (q ++ e :: r) b) = if Tch e.r b then e.K.get b else (if D (q ++ e :: r).length = true ∧ Tch ek.r b then ek.K.get b else HD D H0 (q ++ e :: r) b)
      rw [hk]
      by_cases hc1 : D (q ++ e :: r).length = true ∧ Tch ek.r b
      · rw [if_pos hc1, if_pos hc1, if_neg]
        intro ht
        have hat : atI (q ++ e :: r) r.length = some e := atI_mid
        have hnb : ¬ bit ek.r.pre r.length := fun hb' => by
          have := hc _ ek atI_self hc1.1 r.length hb'
          rw [hD] at this
          cases this
        obtain ⟨r2, k1, k2, k3, q2, k4⟩ := h2.at_ hat
        have hr2 : r = r2 := by simpa using List.append_inj_right' k4 (by simp [k2])
        subst hr2
        have e1 := k1.c
        have e2 := (at_c h2 hat).2.2
        have e3 := h1.c
        have notnew : ¬ (ek.r.c ≤ b ∧ b < ek.r.c') := fun ⟨n1, n2⟩ => by
          rcases ht with ht | ⟨_, ht⟩
          · rcases k1.wlive b ht with h6 | ⟨_, h7⟩
            · cases ho : e.r.H.get b with
              | none => exact absurd ho h6
              | some ob =>
                rcases HD_live k3 (by rw [(k1.hp b ob ho).1]; simp : HD All H0 r b ≠ none) with h8 | ⟨_, h9⟩
                · refine ha b h8 ⟨?_, n2⟩
                  have := cAt_mono h2
                  omega
                · have := k1.cc; omega
            · omega
          · omega
        rcases hc1.2 with h5 | h5
        · rcases h1.wlive b h5 with h6 | h6
          · cases ho : ek.r.H.get b with
            | none => exact absurd ho h6
            | some ob => exact (h1.hp b ob ho).2 _ e hat hnb ht
          · exact notnew h6
        · exact notnew h5
      · rw [if_neg hc1, if_neg hc1]
        exact ih
theorem FD_add {D : Nat → Bool} {e : En} {r : List En} (hD : D r.length = false) {t : Nat} {v : V} : ∀ {q : List En}, Tr P ρ n ops F0 H0 c0 (q ++ e :: r) → FD (add D r.length) F0 (q ++ e :: r) t = some v →
    (e.r.dst = some t ∧ v = e.v) ∨ (e.r.dst ≠ some t ∧ FD D F0 (q ++ e :: r) t = some v)
  | [], h, hv => by
    have hv : (if add D r.length r.length = true ∧ e.r.dst = some t then some e.v else FD (add D r.length) F0 r t) = some v := hv
    have h0 : add D r.length r.length = true := if_pos rfl
    have h1 : FD D F0 (e :: r) t = FD D F0 r t := by
      show (if D r.length = true ∧ e.r.dst = some t then some e.v else FD D F0 r t) = _
      rw [if_neg (by rw [hD]; simp)]
    by_cases hd : e.r.dst = some t
    · rw [if_pos ⟨h0, hd⟩] at hv
      injection hv with hv
      exact .inl ⟨hd, hv.symm⟩
    · rw [if_neg (fun h => hd h.2), FD_congr (D := add D r.length) (D' := D) (fun i hi => if_neg (by omega))] at hv
      exact .inr ⟨hd, by show FD D F0 (e :: r) t = _; rw [h1]; exact hv⟩
  | ek :: q, h, hv => by
    cases h with
    | cons h1 h2 =>
      have h1 : EnOK P ρ n ops F0 H0 c0 ek (q ++ e :: r) := h1
      have h2 : Tr P ρ n ops F0 H0 c0 (q ++ e :: r) := h2
      have hk : add D r.length (q ++ e :: r).length = D (q ++ e :: r).length := if_neg (by simp; omega)
      have hv : (if add D r.length (q ++ e :: r).length = true ∧ ek.r.dst = some t then some ek.v else FD (add D r.length) F0 (q ++ e :: r) t) = some v := hv
      rw [hk] at hv
      show _ ∨ (_ ∧ (if D (q ++ e :: r).length = true ∧ ek.r.dst = some t then some ek.v else FD D F0 (q ++ e :: r) t) = some v)
      by_cases hc1 : D (q ++ e :: r).length = true ∧ ek.r.dst = some t
      · rw [if_pos hc1] at hv ⊢
        exact .inr ⟨h1.nd _ e atI_mid t hc1.2, hv⟩
      · rw [if_neg hc1] at hv ⊢
        exact FD_add hD h2 hv
/-- A value that is there is one of a place's, or of the base. -/
theorem FD_of {D : Nat → Bool} {t : Nat} {v : V} : ∀ {es : List En}, FD D F0 es t = some v → F0 t = some v ∨ ∃ i e, atI es i = some e ∧ e.r.dst = some t
  | [], h => .inl h
  | e :: r, h => by
    unfold FD at h
    split at h
    · rename_i hc; exact .inr ⟨_, e, atI_self, hc.2⟩
    · rcases FD_of h with h1 | ⟨i, e', h1, h2⟩
      · exact .inl h1
      · exact .inr ⟨i, e', atI_cons h1, h2⟩
theorem fr_at {D : Nat → Bool} {ej : En} {rj : List En} (hF0 : ∀ (i : Nat) (o : Oper) (t : Nat), ops[i]? = some o → o.dst = some t → F0 t = none) (hj : EnOK P ρ n ops F0 H0 c0 ej rj) (hpre : ∀ i, bit ej.r.pre i → D i = true) (hDj : D rj.length = false) {t : Nat} {v : V} (hv : ej.F.get t = some v) :
    ∀ {q : List En}, Tr P ρ n ops F0 H0 c0 (q ++ ej :: rj) → FD D F0 (q ++ ej :: rj) t = some v
  | [], h => by
    show (if D rj.length = true ∧ ej.r.dst = some t then some ej.v else FD D F0 rj t) = some v
    rw [if_neg (by rw [hDj]; simp)]
    obtain ⟨h3, h4⟩ := hj.fr t v hv
    have key : ∀ {r : List En} {q : List En}, rj = q ++ r → FD All F0 r t = some v → FD D F0 r t = some v := by
      intro r
      induction r with
      | nil => intro q _ h; exact h
      | cons e r ih =>
        intro q hq h
        have hat : atI rj r.length = some e := by rw [hq]; exact atI_mid
        unfold FD at h ⊢
        by_cases ht : e.r.dst = some t
        · have hbit : bit ej.r.pre r.length := by
            by_cases hn : bit ej.r.pre r.length
            · exact hn
            · exact absurd ht (h4 _ _ hat hn)
          rw [if_pos ⟨rfl, ht⟩] at h
          rw [if_pos ⟨hpre _ hbit, ht⟩]
          exact h
        · rw [if_neg (fun h => ht h.2)] at h ⊢
          exact ih (q := q ++ [e]) (by rw [hq]; simp) h
    exact key (q := []) rfl h3
  | e :: q, h => by
    cases h with
    | cons h1 h2 =>
      have h1 : EnOK P ρ n ops F0 H0 c0 e (q ++ ej :: rj) := h1
      have h2 : Tr P ρ n ops F0 H0 c0 (q ++ ej :: rj) := h2
      have ih := fr_at hF0 hj hpre hDj hv (q := q) h2
      show (if D (q ++ ej :: rj).length = true ∧ e.r.dst = some t then some e.v else FD D F0 (q ++ ej :: rj) t) = some v
      rw [if_neg]
      · exact ih
      · rintro ⟨_, hd⟩
        rcases FD_of ih with h3 | ⟨i, e', h3, h4⟩
        · rw [hF0 _ _ _ h1.at_ (by rw [← h1.dst]; exact hd)] at h3
          cases h3
        · exact h1.nd i e' h3 t hd h4
/-- Where all stands when those of D have run. -/
structure Rel (ρ : Rho) (n : Nat) (F0 : Nat → Option V) (H0 : Nat → Option Ob) (c0 : Nat) (wl0 : List Nat) (w0 ws : World) (E0 : Env) (es : List En) (D : Nat → Bool) (E : Env) (a : Act) (w : World) : Prop where
  ρ : E.ρ = ρ
  fa : ∃ FL, Fr ⟨n, []⟩ a FL ∧ ∀ t v, FD D F0 es t = some v → ∃ u, Eng.look FL t = some u ∧ VR E v u
  nx : Nx w0 E0 H0 c0 ws E (HD D H0 es) (cAt c0 es) (wlAt wl0 es) w
  fr : ∀ i e, atI es i = some e → D i = false → Fresh E e.r.c e.r.c'
theorem Wr.sub {w0 : World} {E : Env} {H H' : Nat → Option Ob} {w : World} (h : Wr w0 E H w) (hs : ∀ b o, H' b = some o → H b = some o) : Wr w0 E H' w :=
  have hn : ∀ b, H' b ≠ none → H b ≠ none := fun b hb => by
    cases e : H' b with
    | none => exact absurd e hb
    | some o => rw [hs b o e]; simp
  ⟨h.agree, fun b o hb => h.lr b o (hs b o hb), h.own, fun b b' g h1 h2 => h.inj b b' g (hn b h1) (hn b' h2)⟩
theorem Rel.step {w0 ws : World} {E0 : Env} {es : List En} {D : Nat → Bool} {E : Env} {a : Act} {w : World} {j : Nat} {e : En} {K : Act → World → Prop} {Q : Exit → Act → World → Prop}
    (hr : Rel ρ n F0 H0 c0 wl0 w0 ws E0 es D E a w) (ht : Tr P ρ n ops F0 H0 c0 es) (hap : Apart H0 c0 (cAt c0 es)) (hf0 : Fresh E0 c0 (cAt c0 es)) (hF0 : ∀ (i : Nat) (o : Oper) (t : Nat), ops[i]? = some o → o.dst = some t → F0 t = none) (hc : Cl es D) (hj : atI es j = some e) (hD : D j = false) (hpre : ∀ i, bit e.r.pre i → D i = true)
    (k : ∀ E' a' w', Rel ρ n F0 H0 c0 wl0 w0 ws E0 es (add D j) E' a' w' → K a' w') : wpOp P ops Q j K a w := by
  obtain ⟨r, k1, rfl, k3, q, rfl⟩ := ht.at_ hj
  obtain ⟨FL, hfr, hfd⟩ := hr.fa
  have hF : FRel E e.F FL := fun t v hv => hfd t v (fr_at hF0 k1 hpre hD hv ht)
  have hH : ∀ b o, e.r.H.get b = some o → HD D H0 (q ++ e :: r) b = some o := fun b o hb => hp_at k1 rfl hpre hD hb ht hap hc
  have hHn : ∀ b, e.r.H.get b ≠ none → HD D H0 (q ++ e :: r) b ≠ none := fun b hb => by
    cases e1 : e.r.H.get b with
    | none => exact absurd e1 hb
    | some o => rw [hH b o e1]; simp
  have hwr := hr.nx.wr
  have hcc := at_c ht hj
  have hfj := hr.fr _ e hj hD
  have hadd := fun b => HD_add (b := b) hD ht hap hc
  have want := gv_ok hF hfr k1.guard
  -- the frame behind it
  have fa' : ∀ {E' : Env} {u : Value}, Ext E E' → VR E' e.v u → ∃ FL, Fr ⟨n, []⟩ (a.put e.o.dst u) FL ∧ ∀ t v, FD (add D r.length) F0 (q ++ e :: r) t = some v → ∃ u, Eng.look FL t = some u ∧ VR E' v u := by
    intro E' u hx hu
    have hdok := k1.dOk
    have hdst := k1.dst
    cases hd : e.o.dst with
    | none =>
      refine ⟨FL, hfr.putNone u, fun t v hv => ?_⟩
      rcases FD_add hD ht hv with ⟨h1, _⟩ | ⟨_, h1⟩
      · rw [hdst, hd] at h1; cases h1
      · obtain ⟨u', h2, h3⟩ := hfd t v h1
        exact ⟨u', h2, VR.mono hx _ _ h3⟩
    | some d =>
      rw [hd] at hdok hdst
      refine ⟨_, hfr.put (blt_lt hdok) u, fun t v hv => ?_⟩
      rw [look_cons]
      rcases FD_add hD ht hv with ⟨h1, h2⟩ | ⟨h1, h2⟩
      · rw [hdst] at h1
        injection h1 with h1
        rw [if_pos h1, h2]
        exact ⟨u, rfl, hu⟩
      · rw [hdst] at h1
        rw [if_neg (fun h => h1 (congrArg some h))]
        obtain ⟨u', h3, h4⟩ := hfd t v h2
        exact ⟨u', h3, VR.mono hx _ _ h4⟩
  unfold wpOp
  simp only [k1.at_]
  cases hon : e.on with
  | false =>
    obtain ⟨h1, h2, h3⟩ := k1.off hon
    rw [if_neg (by rw [want, hon]; decide)]
    have hnt : ∀ b, ¬ Tch e.r b := fun b hb => by
      rcases hb with hb | hb
      · rw [h2] at hb; cases hb
      · omega
    have heq : HD (add D r.length) H0 (q ++ e :: r) = HD D H0 (q ++ e :: r) := funext fun b => by rw [hadd, if_neg (hnt b)]
    refine k E _ w ⟨hr.ρ, fa' (Ext.refl E) (by rw [h1]; rfl), by rw [heq]; exact hr.nx, fun i e' hi hd => hr.fr i e' hi ?_⟩
    have : (if i = r.length then true else D i) = false := hd
    split at this
    · cases this
    · exact this
  | true =>
    rw [if_pos (by rw [want, hon])]
    refine .inl (k1.sem hon w0 E a w K Q hr.ρ ⟨FL, hfr, hF⟩ (hwr.sub hH) hfj (fun E' u w' hn hu => k E' _ w' ?_))
    have inj' : ∀ b b' g, HD D H0 (q ++ e :: r) b ≠ none → HD D H0 (q ++ e :: r) b' ≠ none → E.ν b = some g → E.ν b' = some g → b = b' := hwr.inj
    -- what was there and was not touched
    have old : ∀ b, ¬ Tch e.r b → HD D H0 (q ++ e :: r) b ≠ none → ∃ g obj o, HD D H0 (q ++ e :: r) b = some o ∧ E.ν b = some g ∧ w.heap[g]? = some obj ∧ w'.heap[g]? = some obj ∧ OR E o obj ∧ g < w.heap.size ∧ ∀ b0 ∈ e.r.wl, e.r.H.get b0 ≠ none → E.ν b0 ≠ some g := by
      intro b hb hl
      cases ho : HD D H0 (q ++ e :: r) b with
      | none => exact absurd ho hl
      | some o =>
        obtain ⟨g, obj, h1, h2, h3⟩ := hwr.lr b o ho
        have hlt := (Array.getElem?_eq_some_iff.1 h2).1
        have hne : ∀ b0 ∈ e.r.wl, e.r.H.get b0 ≠ none → E.ν b0 ≠ some g := fun b0 hb0 hl0 e1 => hb (.inl (by rw [← inj' b0 b g (hHn b0 hl0) hl e1 h1]; exact hb0))
        exact ⟨g, obj, o, rfl, h1, h2, (hn.keep g hlt hne).trans h2, h3, hlt, hne⟩
    have base : ∀ b g, HD D H0 (q ++ e :: r) b ≠ none → E0.ν b = some g → H0 b ≠ none := fun b g hl hg => by
      rcases HD_live ht hl with h1 | ⟨h1, h2⟩
      · exact h1
      · rw [(hf0 b h1 h2).1] at hg; cases hg
    have hwr' : Wr w0 E' (HD (add D r.length) H0 (q ++ e :: r)) w' := by
      refine ⟨hn.wr.agree, fun b o hb => ?_, hn.wr.own, fun b b' g hb hb' h1 h2 => ?_⟩
      · rw [hadd] at hb
        split at hb
        · exact hn.wr.lr b o hb
        · rename_i hnt
          obtain ⟨g, obj, o', h1, h2, h3, h4, h5, _⟩ := old b hnt (by rw [hb]; simp)
          rw [h1] at hb
          injection hb with hb
          subst hb
          exact ⟨g, obj, hn.ext.ν _ _ h2, h4, h5.mono hn.ext⟩
      · rw [hadd] at hb hb'
        have mixed : ∀ x y, Tch e.r x → e.K.get x ≠ none → ¬ Tch e.r y → HD D H0 (q ++ e :: r) y ≠ none → E'.ν x = some g → E'.ν y = some g → False := by
          intro x y hx hxl hy hyl e1 e2
          obtain ⟨g', obj, o', h1, h2, h3, h4, h5, h6, h7⟩ := old y hy hyl
          have : g = g' := by
            have := hn.ext.ν _ _ h2
            rw [e2] at this
            injection this
          subst this
          rcases hn.nu x g e1 with h8 | ⟨h8, h9, h10⟩
          · rcases hn.live x hxl with h11 | ⟨h11, h12⟩
            · exact hy (by rw [← inj' x y g (hHn x h11) hyl h8 h2]; exact hx)
            · rw [(hfj x h11 h12).1] at h8; cases h8
          · rcases h10 with h10 | ⟨b0, h10, h11, h12⟩
            · omega
            · exact h7 b0 h10 h11 h12
        by_cases t1 : Tch e.r b <;> by_cases t2 : Tch e.r b'
        · rw [if_pos t1] at hb; rw [if_pos t2] at hb'
          exact hn.wr.inj b b' g hb hb' h1 h2
        · rw [if_pos t1] at hb; rw [if_neg t2] at hb'
          exact (mixed b b' t1 hb t2 hb' h1 h2).elim
        · rw [if_neg t1] at hb; rw [if_pos t2] at hb'
          exact (mixed b' b t2 hb' t1 hb h2 h1).elim
        · rw [if_neg t1] at hb; rw [if_neg t2] at hb'
          obtain ⟨g1, _, _, _, p1, _⟩ := old b t1 hb
          obtain ⟨g2, _, _, _, p2, _⟩ := old b' t2 hb'
          have e1 := hn.ext.ν _ _ p1
          have e2 := hn.ext.ν _ _ p2
          rw [h1] at e1
          rw [h2] at e2
          injection e1 with e1
          injection e2 with e2
          subst e1
          subst e2
          exact inj' b b' _ hb hb' p1 p2
    refine ⟨by rw [hn.ext.ρ]; exact hr.ρ, fa' hn.ext hu, ⟨hr.nx.ext.trans hn.ext, hwr', Nat.le_trans hr.nx.size hn.size, fun b g hb => ?_, fun i x hi => ?_, fun g hg hne => ?_, fun b hb hrg => HD_same ht hb hrg, fun b hb => HD_live ht hb⟩, fun i e' hi hd => ?_⟩
    · rcases hn.nu b g hb with h1 | ⟨h1, h2, h3⟩
      · exact hr.nx.nu b g h1
      · refine .inr ⟨by omega, by omega, ?_⟩
        rcases h3 with h3 | ⟨b0, h3, h4, h5⟩
        · exact .inl (Nat.le_trans hr.nx.size h3)
        · rcases hr.nx.nu b0 g h5 with h6 | ⟨_, _, h6⟩
          · exact .inr ⟨b0, at_wl hj h3, base b0 g (hHn b0 h4) h6, h6⟩
          · exact h6
    · rcases hn.kap i x hi with h1 | ⟨h1, h2⟩
      · exact hr.nx.kap i x h1
      · exact .inr ⟨by omega, by omega⟩
    · have h1 := hr.nx.keep g hg hne
      refine (hn.keep g (Nat.lt_of_lt_of_le hg hr.nx.size) (fun b0 hb0 hl0 e1 => ?_)).trans h1
      rcases hr.nx.nu b0 g e1 with h6 | ⟨_, _, h6⟩
      · exact hne b0 (at_wl hj hb0) (base b0 g (hHn b0 hl0) h6) h6
      · rcases h6 with h6 | ⟨b1, h6, h7, h8⟩
        · omega
        · exact hne b1 h6 h7 h8
    · have hd : (if i = r.length then true else D i) = false := hd
      split at hd
      · cases hd
      · rename_i hne
        have h0 := hr.fr i e' hi hd
        have hap2 : e'.r.c' ≤ e.r.c ∨ e.r.c' ≤ e'.r.c := by
          rcases Nat.lt_or_gt_of_ne hne with h | h
          · exact .inl (at_apart ht hi hj h)
          · exact .inr (at_apart ht hj hi h)
        intro b hb hb'
        obtain ⟨f1, f2⟩ := h0 b hb hb'
        refine ⟨?_, ?_⟩
        · cases h : E'.ν b with
          | none => rfl
          | some g =>
            rcases hn.nu b g h with h1 | ⟨h1, h2, _⟩
            · rw [f1] at h1; cases h1
            · omega
        · cases h : E'.κ b with
          | none => rfl
          | some g =>
            rcases hn.kap b g h with h1 | ⟨h1, h2⟩
            · rw [f2] at h1; cases h1
            · omega
end
end Go.Run
