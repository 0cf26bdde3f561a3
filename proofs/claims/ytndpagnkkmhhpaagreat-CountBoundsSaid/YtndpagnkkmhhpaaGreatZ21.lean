/-
The check of a law's ways: each is out of reach by what is known of it, or what it says is plain.
-/
import Derived.Test.YtndpagnkkmhhpaaGreatZ20
namespace Go.Run
open Go.Eng Go.RowKit
set_option linter.unusedVariables false
set_option linter.unusedSimpArgs false
noncomputable def tvLt (p q : Option IP) : Option Bool := match p, q with
  | some ⟨l, h, _⟩, some ⟨l', h', _⟩ => match ilt h l' with
    | true => some true
    | false => match ilt l h' with | false => some false | true => none
  | _, _ => none
noncomputable def tvEq (p q : Option IP) : Option Bool := match p, q with
  | some ⟨l, h, r⟩, some ⟨l', h', s⟩ => match ilt h l' with
    | true => some false
    | false => match ilt h' l with
      | true => some false
      | false => match r, s with
        | some r, some s => match sameP r s with | true => some true | false => none
        | _, _ => none
  | _, _ => none
noncomputable def tvAll : Option Bool → Option Bool → Option Bool
  | some false, _ => some false
  | some true, b => b
  | none, some false => some false
  | none, _ => none
noncomputable def tvBeq : Option Bool → Option Bool → Option Bool
  | some a, some b => some (bsame a b)
  | _, _ => none
noncomputable def tv (e : Ev) : X → Option Bool
  | .lit _ => none
  | .bl b => some b
  | .v _ => none
  | .un o a => match o with | .not => (match tv e a with | some b => some b.not | none => none) | _ => none
  | .bi o a b => match o with
    | .lt => tvLt (ip e a) (ip e b)
    | .eq => tvEq (ip e a) (ip e b)
    | .all => tvAll (tv e a) (tv e b)
    | .beq => tvBeq (tv e a) (tv e b)
    | _ => none
  | .tr _ _ _ _ => none
theorem tvLt_ok {ρ : Rho} {x y : Int} {p q : Option IP} {b : Bool} (hp : ∀ r, p = some r → IPok ρ x r) (hq : ∀ r, q = some r → IPok ρ y r) (h : tvLt p q = some b) : decide (x < y) = b := by
  unfold tvLt at h
  split at h
  · obtain ⟨a1, a2, _⟩ := hp _ rfl
    obtain ⟨b1, b2, _⟩ := hq _ rfl
    dsimp only at a1 a2 b1 b2
    rw [ilt_eq, ilt_eq] at h
    split at h
    · rename_i c
      cases h
      have c := of_decide_eq_true c
      exact decide_eq_true (by omega)
    · split at h
      · rename_i c
        cases h
        have c := of_decide_eq_false c
        exact decide_eq_false (by omega)
      · cases h
  · cases h
theorem tvEq_ok {ρ : Rho} {x y : Int} {p q : Option IP} {b : Bool} (hp : ∀ r, p = some r → IPok ρ x r) (hq : ∀ r, q = some r → IPok ρ y r) (h : tvEq p q = some b) : (x == y) = b := by
  unfold tvEq at h
  split at h
  · obtain ⟨a1, a2, a3⟩ := hp _ rfl
    obtain ⟨b1, b2, b3⟩ := hq _ rfl
    dsimp only at a1 a2 b1 b2 a3 b3
    rw [ilt_eq, ilt_eq] at h
    split at h
    · rename_i c
      cases h
      have c := of_decide_eq_true c
      exact beq_false_of_ne (by omega)
    · split at h
      · rename_i c
        cases h
        have c := of_decide_eq_true c
        exact beq_false_of_ne (by omega)
      · split at h
        · split at h
          · rename_i c
            cases h
            rw [← a3 _ rfl, ← b3 _ rfl, sameP_eq c]
            exact beq_self_eq_true _
          · cases h
        · cases h
  · cases h
theorem bsame_eq (a b : Bool) : bsame a b = (a == b) := by cases a <;> cases b <;> rfl
theorem tv_ok {ρ : Rho} {e : Ev} (he : EvOK ρ e) : ∀ (x : X) {b : Bool}, tv e x = some b → (x.den ρ).b = b
  | .lit _, b, h => by cases h
  | .bl _, b, h => by cases h; rfl
  | .v _, b, h => by cases h
  | .un o a, b, h => by
    unfold tv at h
    split at h
    · split at h
      · rename_i b' hb
        cases h
        show (!(a.den ρ).b) = _
        rw [tv_ok he a hb]
      · cases h
    · cases h
  | .bi o x y, b, h => by
    unfold tv at h
    split at h
    · exact tvLt_ok (fun r => ip_ok he x) (fun r => ip_ok he y) h
    · exact tvEq_ok (fun r => ip_ok he x) (fun r => ip_ok he y) h
    · show ((x.den ρ).b && (y.den ρ).b) = b
      cases hx : tv e x with
      | some bx =>
        rw [hx] at h
        rw [tv_ok he x hx]
        cases bx with
        | false => cases h; rfl
        | true => rw [tv_ok he y h]; rfl
      | none =>
        rw [hx] at h
        cases hy : tv e y with
        | some bY =>
          rw [hy] at h
          cases bY with
          | false => cases h; rw [tv_ok he y hy]; exact Bool.and_false _
          | true => cases h
        | none => rw [hy] at h; cases h
    · show ((x.den ρ).b == (y.den ρ).b) = b
      cases hx : tv e x with
      | none => rw [hx] at h; cases h
      | some bx =>
        cases hy : tv e y with
        | none => rw [hx, hy] at h; cases h
        | some bY =>
          rw [hx, hy] at h
          cases h
          rw [tv_ok he x hx, tv_ok he y hy, bsame_eq]
    · cases h
  | .tr _ _ _ _, b, h => by cases h
/-- What is learnt of the inputs from a test's outcome. -/
noncomputable def leastV (e : Ev) (x : X) (n : Int) : Ev := match x with
  | .v i => match look e i with | some (l, h) => (i, imax l n, h) :: e | none => e
  | _ => e
noncomputable def mostV (e : Ev) (x : X) (n : Int) : Ev := match x with
  | .v i => match look e i with | some (l, h) => (i, l, imin h n) :: e | none => e
  | _ => e
noncomputable def leastO (e : Ev) (x : X) (d : Int) : Option IP → Ev | some ⟨l, _, _⟩ => leastV e x (l + d) | none => e
noncomputable def mostO (e : Ev) (x : X) (d : Int) : Option IP → Ev | some ⟨_, h, _⟩ => mostV e x (h + d) | none => e
noncomputable def learn (e : Ev) (x : X) (b : Bool) : Ev := match x with
  | .un o a => match o with | .not => learn e a b.not | _ => e
  | .bi o x y => match o with
    | .lt => match b with
      | true => leastO (mostO e x (-1) (ip e y)) y 1 (ip e x)
      | false => mostO (leastO e x 0 (ip e y)) y 0 (ip e x)
    | .eq => match b with
      | true => mostO (leastO (mostO (leastO e x 0 (ip e y)) x 0 (ip e y)) y 0 (ip e x)) y 0 (ip e x)
      | false => e
    | .all => match b with | true => learn (learn e x true) y true | false => e
    | _ => e
  | _ => e
theorem look_cons {i : Nat} {p : Int × Int} {e : Ev} {j : Nat} {q : Int × Int} (h : look ((i, p) :: e) j = some q) : (i = j ∧ p = q) ∨ look e j = some q := by
  unfold look at h
  split at h
  · rename_i hb; cases h; exact .inl ⟨Nat.eq_of_beq_eq_true hb, rfl⟩
  · exact .inr h
theorem leastV_ok {ρ : Rho} {e : Ev} {x : X} {n : Int} (he : EvOK ρ e) (h : n ≤ (x.den ρ).i) : EvOK ρ (leastV e x n) := by
  unfold leastV
  split
  · rename_i i
    split
    · rename_i l hh hl
      intro j l' h' hj
      rcases look_cons hj with ⟨rfl, hp⟩ | hj
      · cases hp
        obtain ⟨k1, k2⟩ := he _ _ _ hl
        refine ⟨?_, k2⟩
        have : n ≤ (ρ.v i).i := h
        rw [imax_eq]; split <;> omega
      · exact he _ _ _ hj
    · exact he
  · exact he
theorem mostV_ok {ρ : Rho} {e : Ev} {x : X} {n : Int} (he : EvOK ρ e) (h : (x.den ρ).i ≤ n) : EvOK ρ (mostV e x n) := by
  unfold mostV
  split
  · rename_i i
    split
    · rename_i l hh hl
      intro j l' h' hj
      rcases look_cons hj with ⟨rfl, hp⟩ | hj
      · cases hp
        obtain ⟨k1, k2⟩ := he _ _ _ hl
        refine ⟨k1, ?_⟩
        have : (ρ.v i).i ≤ n := h
        rw [imin_eq]; split <;> omega
      · exact he _ _ _ hj
    · exact he
  · exact he
theorem leastO_ok {ρ : Rho} {e : Ev} {x y : X} {d : Int} {o : Option IP} (he : EvOK ρ e) (ho : ∀ q, o = some q → IPok ρ (y.den ρ).i q) (h : (y.den ρ).i + d ≤ (x.den ρ).i) : EvOK ρ (leastO e x d o) := by
  unfold leastO
  split
  · obtain ⟨a1, a2, _⟩ := ho _ rfl
    exact leastV_ok he (by dsimp only at a1; omega)
  · exact he
theorem mostO_ok {ρ : Rho} {e : Ev} {x y : X} {d : Int} {o : Option IP} (he : EvOK ρ e) (ho : ∀ q, o = some q → IPok ρ (y.den ρ).i q) (h : (x.den ρ).i ≤ (y.den ρ).i + d) : EvOK ρ (mostO e x d o) := by
  unfold mostO
  split
  · obtain ⟨a1, a2, _⟩ := ho _ rfl
    exact mostV_ok he (by dsimp only at a2; omega)
  · exact he
theorem learn_ok {ρ : Rho} : ∀ (x : X) {e : Ev} {b : Bool} (he : EvOK ρ e), (x.den ρ).b = b → EvOK ρ (learn e x b)
  | .lit _, e, b, he, h => he
  | .bl _, e, b, he, h => he
  | .v _, e, b, he, h => he
  | .un o a, e, b, he, h => by
    unfold learn
    split
    · exact learn_ok a he (by rw [← h]; show _ = !!(a.den ρ).b; rw [Bool.not_not])
    · exact he
  | .bi o x y, e, b, he, h => by
    unfold learn
    split
    · split
      · have h : (x.den ρ).i < (y.den ρ).i := of_decide_eq_true h
        exact leastO_ok (mostO_ok he (fun q => ip_ok he y) (by omega)) (fun q => ip_ok he x) (by omega)
      · have h : ¬ (x.den ρ).i < (y.den ρ).i := of_decide_eq_false h
        exact mostO_ok (leastO_ok he (fun q => ip_ok he y) (by omega)) (fun q => ip_ok he x) (by omega)
    · split
      · have h : (x.den ρ).i = (y.den ρ).i := eq_of_beq h
        exact mostO_ok (leastO_ok (mostO_ok (leastO_ok he (fun q => ip_ok he y) (by omega)) (fun q => ip_ok he y) (by omega)) (fun q => ip_ok he x) (by omega)) (fun q => ip_ok he x) (by omega)
      · exact he
    · split
      · have h : ((x.den ρ).b && (y.den ρ).b) = true := h
        have := Bool.and_eq_true_iff.1 h
        exact learn_ok y (learn_ok x he this.1) this.2
      · exact he
    · exact he
  | .tr _ _ _ _, e, b, he, h => he
noncomputable def learnAll (e : Ev) : List (X × Bool) → Ev
  | [] => e
  | (x, b) :: r => learn (learnAll e r) x b
theorem learnAll_ok {ρ : Rho} {e : Ev} (he : EvOK ρ e) : ∀ {pc : List (X × Bool)}, PC ρ pc → EvOK ρ (learnAll e pc)
  | [], h => he
  | (x, b) :: r, h => learn_ok x (learnAll_ok he (fun p hp => h p (List.mem_cons_of_mem _ hp))) (h _ List.mem_cons_self)
/-- Is a range empty? -/
noncomputable def void : List Nat → Ev → Bool
  | [], _ => false
  | i :: r, e => match look e i with
    | some (l, h) => match ilt h l with | true => true | false => void r e
    | none => void r e
theorem void_ok {ρ : Rho} {e : Ev} (he : EvOK ρ e) : ∀ l, void l e = false
  | [] => rfl
  | i :: r => by
    unfold void
    split
    · rename_i l h hl
      have := he _ _ _ hl
      rw [ilt_eq]
      split
      · rename_i c; have c := of_decide_eq_true c; omega
      · exact void_ok he r
    · exact void_ok he r
noncomputable def odd (e : Ev) : List (X × Bool) → Bool
  | [] => false
  | (x, b) :: r => match tv e x with
    | some b' => match bsame b b' with | true => odd e r | false => true
    | none => odd e r
theorem odd_ok {ρ : Rho} {e : Ev} (he : EvOK ρ e) : ∀ {pc : List (X × Bool)}, PC ρ pc → odd e pc = false
  | [], h => rfl
  | (x, b) :: r, h => by
    unfold odd
    split
    · rename_i b' hb
      have h1 := tv_ok he x hb
      have h2 : (x.den ρ).b = b := h _ List.mem_cons_self
      rw [← h2, h1, bsame_eq, beq_self_eq_true]
      exact odd_ok he (fun p hp => h p (List.mem_cons_of_mem _ hp))
    · exact odd_ok he (fun p hp => h p (List.mem_cons_of_mem _ hp))
noncomputable def chk1 (is : List Nat) (e : Ev) (pc : List (X × Bool)) (r : X) : Bool :=
  match void is e with
  | true => true
  | false => match tv e r with
    | some true => true
    | _ => odd e pc
noncomputable def chk (is : List Nat) (e : Ev) : List (List (X × Bool) × X) → Bool
  | [] => true
  | (pc, r) :: l => match chk1 is (learnAll e pc) pc r with | true => chk is e l | false => false
theorem chk_ok {ρ : Rho} {is : List Nat} {e : Ev} (he : EvOK ρ e) : ∀ {l : List (List (X × Bool) × X)}, chk is e l = true → VC ρ l
  | [], h, p, hp, _ => by cases hp
  | (pc, r) :: l, h, p, hp, hpc => by
    unfold chk at h
    split at h
    · rename_i h1
      rcases List.mem_cons.1 hp with rfl | hp
      · have he' := learnAll_ok he hpc
        unfold chk1 at h1
        rw [void_ok he'] at h1
        dsimp only at h1
        split at h1
        · rename_i ht
          exact tv_ok he' r ht
        · rw [odd_ok he' hpc] at h1; cases h1
      · exact chk_ok he h p hp hpc
    · cases h
noncomputable def chkO (is : List Nat) (e : Ev) : Option Lv → Bool
  | some l => match vcL l with | some v => chk is e v | none => false
  | none => false
section
variable {P : Program} {O : Ora} {ρ : Rho}
theorem run_chk (hm : P.follows .mixedOrders = true) (hng : (P.funcs.toList.all fun fn => !(fn.name == "runtime.NumGoroutine")) = true) (hO : OraOK P O ρ) (f g : Nat) (xs : List V) {is : List Nat} {e : Ev} (he : EvOK ρ e) (h : chkO is e (go P O f (.call g xs ⟨.e, 0, [], []⟩)) = true) {us : List Value} (hx : VRs ⟨ρ, fun _ => none, fun _ => none⟩ xs us) (w : World) :
    Calls P g us.toArray w fun e w' => e = .returned (.bool true) ∧ Below w.heap.size w w' := by
  unfold chkO at h
  split at h
  · rename_i l hl
    split at h
    · rename_i v hv
      refine run_law hm hng hO f g xs (l := v) ?_ (chk_ok he h) hx w
      rw [hl]; exact hv
    · cases h
  · cases h
end
end Go.Run
