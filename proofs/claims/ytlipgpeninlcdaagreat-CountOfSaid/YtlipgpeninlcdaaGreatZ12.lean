/-
Operations in whatever order: each ran on what those left that it waits for, and on what was there; so whatever the order, all ends the same.
-/
import Derived.Test.YtlipgpeninlcdaaGreatZ11
namespace Go.Run
open Go.Eng
set_option linter.unusedVariables false
set_option linter.unusedSimpArgs false
/-- An operation that ran: on which frame, what it yielded, which memory it left; whether it was wanted. -/
structure En where
  r : Rec
  o : Oper
  v : V
  F : Fm
  K : PT Ob
  on : Bool
def Tch (r : Rec) (b : Nat) : Prop := b ∈ r.wl ∨ (r.c ≤ b ∧ b < r.c')
instance (r : Rec) (b : Nat) : Decidable (Tch r b) := by unfold Tch; infer_instance
noncomputable def HD (D : Nat → Bool) (H0 : Nat → Option Ob) : List En → Nat → Option Ob
  | [], b => H0 b
  | e :: r, b => if D r.length = true ∧ Tch e.r b then e.K.get b else HD D H0 r b
noncomputable def FD (D : Nat → Bool) (F0 : Nat → Option V) : List En → Nat → Option V
  | [], t => F0 t
  | e :: r, t => if D r.length = true ∧ e.r.dst = some t then some e.v else FD D F0 r t
noncomputable def All : Nat → Bool := fun _ => true
noncomputable def atI : List En → Nat → Option En
  | [], _ => none
  | e :: r, i => if i = r.length then some e else atI r i
noncomputable def cAt (c0 : Nat) : List En → Nat
  | [] => c0
  | e :: _ => e.r.c'
noncomputable def wlAt (wl0 : List Nat) : List En → List Nat
  | [] => wl0
  | e :: r => e.r.wl ++ wlAt wl0 r
def bit (a i : Nat) : Prop := Nat.land (Nat.shiftRight a i) 1 = 1
instance (a i : Nat) : Decidable (bit a i) := by unfold bit; infer_instance
/-- What an operation does. -/
def OpS (P : Program) (ρ : Rho) (n : Nat) (F : Fm) (H : PT Ob) (c : Nat) (K : PT Ob) (c' : Nat) (wl : List Nat) (v : V) (o : Oper) : Prop :=
  ∀ (w0 : World) (E : Env) (a : Act) (w : World) (k : Act → World → Prop) (Q : Exit → Act → World → Prop), E.ρ = ρ → FA E F n a → Wr w0 E H.get w → Fresh E c c' →
    (∀ E' u w', Nx w0 E H.get c w E' K.get c' wl w' → VR E' v u → k (a.put o.dst u) w') → o.wp P a w k Q
structure EnOK (P : Program) (ρ : Rho) (n : Nat) (ops : Array Oper) (F0 : Nat → Option V) (H0 : Nat → Option Ob) (c0 : Nat) (e : En) (r : List En) : Prop where
  at_ : ops[r.length]? = some e.o
  dst : e.r.dst = e.o.dst
  dOk : dOk n e.o.dst = true
  pre : ∀ i, bit e.r.pre i → i < r.length ∧ ∃ x ∈ e.o.after, Region.binds .any x = true ∧ (i = x.on ∨ ∃ e', atI r x.on = some e' ∧ bit e'.r.pre i)
  aft : ∀ x ∈ e.o.after, Region.binds .any x = true → x.on < r.length
  fr : ∀ t v, e.F.get t = some v → FD All F0 r t = some v ∧ ∀ i e', atI r i = some e' → ¬ bit e.r.pre i → e'.r.dst ≠ some t
  hp : ∀ b ob, e.r.H.get b = some ob → HD All H0 r b = some ob ∧ ∀ i e', atI r i = some e' → ¬ bit e.r.pre i → ¬ Tch e'.r b
  cl : ∀ i e', atI r i = some e' → ¬ bit e.r.pre i → ∀ b ∈ e.r.wl, e'.r.H.get b = none
  nd : ∀ i e', atI r i = some e' → ∀ t, e.r.dst = some t → e'.r.dst ≠ some t
  c : e.r.c = cAt c0 r
  cc : e.r.c ≤ e.r.c'
  wlive : ∀ b ∈ e.r.wl, e.r.H.get b ≠ none ∨ (e.r.c ≤ b ∧ b < e.r.c')
  live : ∀ b, e.K.get b ≠ none → e.r.H.get b ≠ none ∨ (e.r.c ≤ b ∧ b < e.r.c')
  guard : gv ops.toList e.F e.o.guard = some e.on
  off : e.on = false → e.v = .und ∧ e.r.wl = [] ∧ e.r.c' = e.r.c
  sem : e.on = true → OpS P ρ n e.F e.r.H e.r.c e.K e.r.c' e.r.wl e.v e.o
inductive Tr (P : Program) (ρ : Rho) (n : Nat) (ops : Array Oper) (F0 : Nat → Option V) (H0 : Nat → Option Ob) (c0 : Nat) : List En → Prop where
  | nil : Tr P ρ n ops F0 H0 c0 []
  | cons {e : En} {r : List En} : EnOK P ρ n ops F0 H0 c0 e r → Tr P ρ n ops F0 H0 c0 r → Tr P ρ n ops F0 H0 c0 (e :: r)
section
variable {P : Program} {ρ : Rho} {n : Nat} {ops : Array Oper} {F0 : Nat → Option V} {H0 : Nat → Option Ob} {c0 : Nat} {wl0 : List Nat}
theorem atI_lt : ∀ {es : List En} {i : Nat} {e : En}, atI es i = some e → i < es.length
  | [], i, e, h => by cases h
  | e0 :: r, i, e, h => by
    unfold atI at h
    split at h
    · simp; omega
    · have := atI_lt h; simp; omega
theorem atI_some : ∀ {es : List En} {i : Nat}, i < es.length → ∃ e, atI es i = some e
  | [], i, h => by simp at h
  | e0 :: r, i, h => by
    unfold atI
    split
    · exact ⟨_, rfl⟩
    · exact atI_some (by simp at h; omega)
theorem atI_cons {e0 e : En} {r : List En} {i : Nat} (h : atI r i = some e) : atI (e0 :: r) i = some e := by
  unfold atI
  rw [if_neg (by have := atI_lt h; omega)]
  exact h
/-- The row ahead of number i. -/
noncomputable def upTo : List En → Nat → List En
  | [], _ => []
  | e :: r, i => if i < r.length + 1 then (if i = r.length then r else upTo r i) else e :: r
theorem Tr.at_ : ∀ {es : List En} {i : Nat} {e : En}, Tr P ρ n ops F0 H0 c0 es → atI es i = some e → ∃ r, EnOK P ρ n ops F0 H0 c0 e r ∧ r.length = i ∧ Tr P ρ n ops F0 H0 c0 r ∧ ∃ q, es = q ++ e :: r
  | [], i, e, h, hi => by cases hi
  | e0 :: r, i, e, h, hi => by
    cases h with
    | cons h1 h2 =>
      unfold atI at hi
      split at hi
      · rename_i hl
        cases hi
        exact ⟨r, h1, hl.symm, h2, [], rfl⟩
      · obtain ⟨r', k1, k2, k3, q, k4⟩ := Tr.at_ h2 hi
        exact ⟨r', k1, k2, k3, e0 :: q, by rw [k4]; rfl⟩
theorem atI_app : ∀ {q r : List En} {i : Nat}, i < r.length → atI (q ++ r) i = atI r i
  | [], r, i, h => rfl
  | e :: q, r, i, h => by
    show (if i = (q ++ r).length then some e else atI (q ++ r) i) = _
    rw [if_neg (by simp; omega)]
    exact atI_app h
theorem cAt_mono : ∀ {es : List En}, Tr P ρ n ops F0 H0 c0 es → c0 ≤ cAt c0 es
  | [], h => Nat.le_refl _
  | e :: r, h => by
    cases h with
    | cons h1 h2 =>
      have := cAt_mono h2
      have := h1.cc
      have := h1.c
      show c0 ≤ e.r.c'
      omega
theorem cAt_app : ∀ {q r : List En}, Tr P ρ n ops F0 H0 c0 (q ++ r) → cAt c0 r ≤ cAt c0 (q ++ r)
  | [], r, h => Nat.le_refl _
  | e :: q, r, h => by
    cases h with
    | cons h1 h2 =>
      have h1 : EnOK P ρ n ops F0 H0 c0 e (q ++ r) := h1
      have h2 : Tr P ρ n ops F0 H0 c0 (q ++ r) := h2
      have := cAt_app h2
      have := h1.cc
      have := h1.c
      show _ ≤ e.r.c'
      omega
theorem at_c {es : List En} {i : Nat} {e : En} (h : Tr P ρ n ops F0 H0 c0 es) (hi : atI es i = some e) : c0 ≤ e.r.c ∧ e.r.c ≤ e.r.c' ∧ e.r.c' ≤ cAt c0 es := by
  obtain ⟨r, h1, h2, h3, q, rfl⟩ := h.at_ hi
  have := cAt_mono h3
  have := h1.c
  refine ⟨by omega, h1.cc, ?_⟩
  exact cAt_app h
/-- Numbers that two took are apart. -/
theorem at_apart {es : List En} {i j : Nat} {e e' : En} (h : Tr P ρ n ops F0 H0 c0 es) (hi : atI es i = some e) (hj : atI es j = some e') (hij : i < j) : e.r.c' ≤ e'.r.c := by
  obtain ⟨r, h1, h2, h3, q, rfl⟩ := h.at_ hj
  rw [h1.c]
  rw [show atI (q ++ e' :: r) i = atI r i by rw [atI_app (by simp; omega)]; unfold atI; rw [if_neg (by omega)]; cases r <;> rfl] at hi
  exact (at_c h3 hi).2.2
theorem at_wl : ∀ {es : List En} {i : Nat} {e : En} {b : Nat}, atI es i = some e → b ∈ e.r.wl → b ∈ wlAt wl0 es
  | [], i, e, b, h, hb => by cases h
  | e0 :: r, i, e, b, h, hb => by
    unfold atI at h
    split at h
    · cases h; exact List.mem_append_left _ hb
    · exact List.mem_append_right _ (at_wl h hb)
/-- What is there was there, or is new. -/
theorem HD_live : ∀ {es : List En} {D : Nat → Bool} {b : Nat}, Tr P ρ n ops F0 H0 c0 es → HD D H0 es b ≠ none → H0 b ≠ none ∨ (c0 ≤ b ∧ b < cAt c0 es)
  | [], D, b, h, hb => .inl hb
  | e :: r, D, b, h, hb => by
    cases h with
    | cons h1 h2 =>
      have h3 := cAt_mono h2
      have h4 := h1.cc
      have h5 := h1.c
      have key : ∀ D', HD D' H0 r b ≠ none → H0 b ≠ none ∨ (c0 ≤ b ∧ b < cAt c0 (e :: r)) := fun D' h => by
        rcases HD_live h2 h with h6 | ⟨h6, h7⟩
        · exact .inl h6
        · refine .inr ⟨h6, ?_⟩
          show b < e.r.c'
          omega
      unfold HD at hb
      split at hb
      · rcases h1.live b hb with h6 | ⟨h6, h7⟩
        · cases ho : e.r.H.get b with
          | none => exact absurd ho h6
          | some ob => exact key All (by rw [(h1.hp b ob ho).1]; simp)
        · exact .inr ⟨by omega, h7⟩
      · exact key D hb
/-- What nobody touched is as it was. -/
theorem HD_same : ∀ {es : List En} {D : Nat → Bool} {b : Nat}, Tr P ρ n ops F0 H0 c0 es → b ∉ wlAt wl0 es → (b < c0 ∨ cAt c0 es ≤ b) → HD D H0 es b = H0 b
  | [], D, b, h, hb, hr => rfl
  | e :: r, D, b, h, hb, hr => by
    cases h with
    | cons h1 h2 =>
      have h3 := cAt_mono h2
      have h4 := h1.cc
      have h5 := h1.c
      have hr : b < c0 ∨ e.r.c' ≤ b := hr
      unfold HD
      rw [if_neg]
      · exact HD_same h2 (fun hm => hb (List.mem_append_right _ hm)) (by omega)
      · rintro ⟨_, h6 | ⟨h6, h7⟩⟩
        · exact hb (List.mem_append_left _ h6)
        · omega
theorem wl_live : ∀ {es : List En} {b : Nat}, Tr P ρ n ops F0 H0 c0 es → b ∈ wlAt wl0 es → b ∈ wl0 ∨ H0 b ≠ none ∨ (c0 ≤ b ∧ b < cAt c0 es)
  | [], b, h, hb => .inl hb
  | e :: r, b, h, hb => by
    cases h with
    | cons h1 h2 =>
      have h3 := cAt_mono h2
      have h4 := h1.cc
      have h5 := h1.c
      rcases List.mem_append.1 hb with hb | hb
      · rcases h1.wlive b hb with h6 | ⟨h6, h7⟩
        · cases ho : e.r.H.get b with
          | none => exact absurd ho h6
          | some ob =>
            rcases HD_live h2 (by rw [(h1.hp b ob ho).1]; simp : HD All H0 r b ≠ none) with h8 | ⟨h8, h9⟩
            · exact .inr (.inl h8)
            · exact .inr (.inr ⟨h8, by show b < e.r.c'; omega⟩)
        · exact .inr (.inr ⟨by omega, h7⟩)
      · rcases wl_live h2 hb with h6 | h6 | ⟨h6, h7⟩
        · exact .inl h6
        · exact .inr (.inl h6)
        · exact .inr (.inr ⟨h6, by show b < e.r.c'; omega⟩)
/-- A set of operations that has with each all that it waits for. -/
def Cl (es : List En) (D : Nat → Bool) : Prop := ∀ k e, atI es k = some e → D k = true → ∀ i, bit e.r.pre i → D i = true
/-- What the base has is none of the new numbers. -/
def Apart (H0 : Nat → Option Ob) (c0 c1 : Nat) : Prop := ∀ b, H0 b ≠ none → ¬ (c0 ≤ b ∧ b < c1)
/-- What number j may look at lies as it lay, whoever else has run. -/
theorem hp_at {D : Nat → Bool} {j : Nat} {ej : En} {rj : List En} (hj : EnOK P ρ n ops F0 H0 c0 ej rj) (hl : rj.length = j) (hpre : ∀ i, bit ej.r.pre i → D i = true) (hDj : D j = false) {b : Nat} {ob : Ob} (hb : ej.r.H.get b = some ob) :
    ∀ {q : List En}, Tr P ρ n ops F0 H0 c0 (q ++ ej :: rj) → Apart H0 c0 (cAt c0 (q ++ ej :: rj)) → Cl (q ++ ej :: rj) D → HD D H0 (q ++ ej :: rj) b = some ob
  | [], h, ha, hc => by
    cases h with
    | cons h1 h2 =>
      show HD D H0 (ej :: rj) b = some ob
      unfold HD
      rw [if_neg (by rw [hl, hDj]; simp)]
      obtain ⟨h3, h4⟩ := hj.hp b ob hb
      have key : ∀ {r : List En} {q : List En}, rj = q ++ r → HD All H0 r b = some ob → HD D H0 r b = some ob := by
        intro r
        induction r with
        | nil => intro q _ h; exact h
        | cons e r ih =>
          intro q hq h
          have hat : atI rj r.length = some e := by
            rw [hq, atI_app (by simp)]
            unfold atI
            rw [if_pos rfl]
          unfold HD at h ⊢
          by_cases ht : Tch e.r b
          · have hbit : bit ej.r.pre r.length := by
              by_cases hn : bit ej.r.pre r.length
              · exact hn
              · exact absurd ht (h4 _ _ hat hn)
            rw [if_pos ⟨rfl, ht⟩] at h
            rw [if_pos ⟨hpre _ hbit, ht⟩]
            exact h
          · rw [if_neg (fun h => ht h.2)] at h ⊢
            exact ih (q := q ++ [e]) (by rw [hq]; simp) h
      exact key (q := []) rfl h3
  | e :: q, h, ha, hc => by
    cases h with
    | cons h1 h2 =>
      have h1 : EnOK P ρ n ops F0 H0 c0 e (q ++ ej :: rj) := h1
      have h2 : Tr P ρ n ops F0 H0 c0 (q ++ ej :: rj) := h2
      have hle : cAt c0 (q ++ ej :: rj) ≤ e.r.c' := by have := h1.c; have := h1.cc; omega
      have ih := hp_at hj hl hpre hDj hb (q := q) h2 (fun x hx hr => ha x hx ⟨hr.1, by show x < e.r.c'; omega⟩) (fun k ek hk hD => hc k ek (atI_cons hk) hD)
      show HD D H0 (e :: (q ++ ej :: rj)) b = some ob
      unfold HD
      rw [if_neg]
      · exact ih
      · rintro ⟨hD, ht⟩
        have hj' : atI (q ++ ej :: rj) j = some ej := by rw [atI_app (by simp; omega)]; unfold atI; rw [if_pos hl.symm]
        have hnb : ¬ bit e.r.pre j := fun hb' => by
          have hself : atI (e :: (q ++ ej :: rj)) (q ++ ej :: rj).length = some e := by unfold atI; rw [if_pos rfl]
          have := hc _ e hself hD j hb'
          rw [hDj] at this
          cases this
        have hH0 : HD All H0 rj b ≠ none := by rw [(hj.hp b ob hb).1]; simp
        rcases ht with ht | ⟨ht, ht'⟩
        · rw [h1.cl j ej hj' hnb b ht] at hb
          cases hb
        · have htr : Tr P ρ n ops F0 H0 c0 rj := by
            obtain ⟨r, k1, k2, k3, q2, k4⟩ := h2.at_ hj'
            have : rj = r := by
              have := List.append_inj_right' k4 (by simp [hl, k2])
              simpa using this
            rw [this]; exact k3
          have h5 := h1.c
          rcases HD_live htr hH0 with h6 | ⟨h6, h7⟩
          · refine ha b h6 ⟨?_, ht'⟩
            have := cAt_mono h2
            omega
          · have h8 : cAt c0 rj ≤ cAt c0 (q ++ ej :: rj) := by
              have e1 := hj.c
              have e2 := (at_c h2 hj')
              omega
            omega
end
end Go.Run
