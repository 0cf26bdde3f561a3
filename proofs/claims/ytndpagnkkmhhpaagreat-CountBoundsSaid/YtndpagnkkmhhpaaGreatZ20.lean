/-
What is known of a way makes the rest plain: ranges of whole numbers, and sums of products, worked out.
-/
import Derived.Test.YtndpagnkkmhhpaaGreatZ19
namespace Go.Run
open Go.Eng Go.RowKit
set_option linter.unusedVariables false
set_option linter.unusedSimpArgs false
abbrev Po := List (List Nat × Int)
noncomputable def imin (a b : Int) : Int := match ilt b a with | true => b | false => a
noncomputable def imax (a b : Int) : Int := match ilt a b with | true => b | false => a
theorem imin_eq (a b : Int) : imin a b = if b < a then b else a := by
  unfold imin; rw [ilt_eq]; by_cases h : b < a <;> simp [h]
theorem imax_eq (a b : Int) : imax a b = if a < b then b else a := by
  unfold imax; rw [ilt_eq]; by_cases h : a < b <;> simp [h]
noncomputable def insN (n : Nat) : List Nat → List Nat
  | [] => [n]
  | m :: r => match Nat.ble n m with | true => n :: m :: r | false => m :: insN n r
noncomputable def mulM : List Nat → List Nat → List Nat
  | [], b => b
  | n :: r, b => insN n (mulM r b)
noncomputable def sameM : List Nat → List Nat → Bool
  | [], [] => true
  | a :: r, b :: s => match Nat.beq a b with | true => sameM r s | false => false
  | _, _ => false
noncomputable def ltM : List Nat → List Nat → Bool
  | [], _ :: _ => true
  | a :: r, b :: s => match Nat.beq a b with | true => ltM r s | false => Nat.blt a b
  | _, _ => false
noncomputable def insP (m : List Nat) (c : Int) : Po → Po
  | [] => [(m, c)]
  | x :: r => match x with
    | (m', c') => match sameM m m' with
      | true => (m', c + c') :: r
      | false => match ltM m m' with
        | true => (m, c) :: (m', c') :: r
        | false => (m', c') :: insP m c r
noncomputable def addP : Po → Po → Po
  | [], q => q
  | (m, c) :: r, q => insP m c (addP r q)
noncomputable def mulP1 (m : List Nat) (c : Int) : Po → Po → Po
  | [], s => s
  | (m', c') :: r, s => insP (mulM m m') (c * c') (mulP1 m c r s)
noncomputable def mulP : Po → Po → Po
  | [], _ => []
  | (m, c) :: r, q => mulP1 m c q (mulP r q)
noncomputable def negP : Po → Po
  | [] => []
  | (m, c) :: r => (m, -c) :: negP r
noncomputable def sameP : Po → Po → Bool
  | [], [] => true
  | (m, c) :: r, (m', c') :: s => match sameM m m', ieq c c' with | true, true => sameP r s | _, _ => false
  | _, _ => false
noncomputable def evM (ρ : Rho) : List Nat → Int
  | [] => 1
  | i :: r => (ρ.v i).i * evM ρ r
noncomputable def evP (ρ : Rho) : Po → Int
  | [] => 0
  | (m, c) :: r => c * evM ρ m + evP ρ r
section
variable {ρ : Rho}
theorem evM_insN (n : Nat) : ∀ l, evM ρ (insN n l) = (ρ.v n).i * evM ρ l
  | [] => rfl
  | m :: r => by
    unfold insN
    split
    · rfl
    · show (ρ.v m).i * evM ρ (insN n r) = (ρ.v n).i * ((ρ.v m).i * evM ρ r)
      rw [evM_insN n r]; exact Int.mul_left_comm _ _ _
theorem evM_mulM : ∀ a b, evM ρ (mulM a b) = evM ρ a * evM ρ b
  | [], b => by simp [mulM, evM]
  | n :: r, b => by
    unfold mulM
    rw [evM_insN, evM_mulM r b]
    show _ = (ρ.v n).i * evM ρ r * evM ρ b
    rw [Int.mul_assoc]
theorem sameM_eq : ∀ {a b}, sameM a b = true → a = b
  | [], [], _ => rfl
  | [], _ :: _, h => by cases h
  | _ :: _, [], h => by cases h
  | a :: r, b :: s, h => by
    unfold sameM at h
    split at h
    · rename_i hb; rw [Nat.eq_of_beq_eq_true hb, sameM_eq h]
    · cases h
theorem evP_insP (m : List Nat) (c : Int) : ∀ p, evP ρ (insP m c p) = c * evM ρ m + evP ρ p
  | [] => rfl
  | (m', c') :: r => by
    unfold insP
    split
    rename_i x y heq
    cases heq
    split
    · rename_i hs
      rw [sameM_eq hs]
      show (c + c') * _ + _ = _ + (c' * _ + _)
      rw [Int.add_mul, Int.add_assoc]
    · split
      · rfl
      · show _ + evP ρ (insP m c r) = _ + (c' * _ + _)
        rw [evP_insP m c r]; omega
theorem evP_addP : ∀ p q, evP ρ (addP p q) = evP ρ p + evP ρ q
  | [], q => by simp [addP, evP]
  | (m, c) :: r, q => by
    unfold addP
    rw [evP_insP, evP_addP r q]
    show _ = (_ + _) + _
    omega
theorem evP_mulP1 (m : List Nat) (c : Int) : ∀ q s, evP ρ (mulP1 m c q s) = c * evM ρ m * evP ρ q + evP ρ s
  | [], s => by simp [mulP1, evP]
  | (m', c') :: r, s => by
    unfold mulP1
    rw [evP_insP, evP_mulP1 m c r s, evM_mulM]
    show _ = c * evM ρ m * (c' * evM ρ m' + evP ρ r) + _
    rw [Int.mul_add]
    have : c * c' * (evM ρ m * evM ρ m') = c * evM ρ m * (c' * evM ρ m') := by
      rw [Int.mul_assoc, Int.mul_assoc, Int.mul_left_comm c']
    omega
theorem evP_mulP : ∀ p q, evP ρ (mulP p q) = evP ρ p * evP ρ q
  | [], q => by simp [mulP, evP]
  | (m, c) :: r, q => by
    unfold mulP
    rw [evP_mulP1, evP_mulP r q]
    show _ = (c * evM ρ m + evP ρ r) * _
    rw [Int.add_mul]
theorem evP_negP : ∀ p, evP ρ (negP p) = - evP ρ p
  | [] => rfl
  | (m, c) :: r => by
    unfold negP
    show -c * _ + evP ρ (negP r) = - (_ + _)
    rw [evP_negP r, Int.neg_mul]; omega
theorem sameP_eq : ∀ {p q}, sameP p q = true → p = q
  | [], [], _ => rfl
  | [], _ :: _, h => by cases h
  | _ :: _, [], h => by cases h
  | (m, c) :: r, (m', c') :: s, h => by
    unfold sameP at h
    split at h
    · rename_i h1 h2
      rw [ieq_eq] at h2
      rw [sameM_eq h1, eq_of_beq h2, sameP_eq h]
    · cases h
end
structure IP where
  lo : Int
  hi : Int
  p : Option Po
abbrev Ev := List (Nat × Int × Int)
noncomputable def look : Ev → Nat → Option (Int × Int)
  | [], _ => none
  | (j, p) :: r, i => match Nat.beq j i with | true => some p | false => look r i
noncomputable def full64 : IP := ⟨-9223372036854775808, 9223372036854775807, none⟩
noncomputable def fit64 (lo hi : Int) : Bool := match ilt lo (-9223372036854775808), ilt 9223372036854775807 hi with | false, false => true | _, _ => false
noncomputable def ipU (o : O1) (a : Option IP) : Option IP := match o with
  | .wrap .i64 => match a with
    | some ⟨lo, hi, p⟩ => match fit64 lo hi with | true => some ⟨lo, hi, p⟩ | false => some full64
    | none => some full64
  | _ => none
noncomputable def two (f : Po → Po → Po) (p q : Option Po) : Option Po := match p, q with | some p, some q => some (f p q) | _, _ => none
noncomputable def ipB (o : O2) (a b : Option IP) : Option IP := match a, b with
  | some ⟨l, h, p⟩, some ⟨l', h', q⟩ => match o with
    | .add => some ⟨l + l', h + h', two addP p q⟩
    | .sub => some ⟨l - h', h - l', two (fun p q => addP p (negP q)) p q⟩
    | .mul => match ilt l 0, ilt l' 0 with | false, false => some ⟨l * l', h * h', two mulP p q⟩ | _, _ => none
    | .min => match ilt l' h with
      | false => some ⟨l, h, p⟩
      | true => match ilt l h' with
        | false => some ⟨l', h', q⟩
        | true => some ⟨imin l l', imin h h', none⟩
    | .max => match ilt l h' with
      | false => some ⟨l, h, p⟩
      | true => match ilt l' h with
        | false => some ⟨l', h', q⟩
        | true => some ⟨imax l l', imax h h', none⟩
    | _ => none
  | _, _ => none
noncomputable def ip (e : Ev) : X → Option IP
  | .lit n => some ⟨n, n, some [([], n)]⟩
  | .bl _ => none
  | .v i => match look e i with | some (l, h) => some ⟨l, h, some [([i], 1)]⟩ | none => none
  | .un o a => ipU o (ip e a)
  | .bi o a b => ipB o (ip e a) (ip e b)
  | .tr _ _ _ _ => none
def EvOK (ρ : Rho) (e : Ev) : Prop := ∀ i l h, look e i = some (l, h) → l ≤ (ρ.v i).i ∧ (ρ.v i).i ≤ h
def IPok (ρ : Rho) (n : Int) (q : IP) : Prop := q.lo ≤ n ∧ n ≤ q.hi ∧ ∀ p, q.p = some p → evP ρ p = n
theorem wrap64_fit {n : Int} (h : -9223372036854775808 ≤ n) (h' : n ≤ 9223372036854775807) : IntKind.wrap .i64 n = n := by
  have e1 : (2 : Int) ^ 64 = 18446744073709551616 := by decide
  have e2 : (2 : Int) ^ (64 - 1) = 9223372036854775808 := by decide
  simp only [IntKind.wrap, IntKind.bits, IntKind.signed, Bool.true_and, decide_eq_true_eq, e1, e2]
  by_cases c : n % 18446744073709551616 ≥ 9223372036854775808
  · rw [if_pos c]; omega
  · rw [if_neg c]; omega
theorem wrap64_in (n : Int) : -9223372036854775808 ≤ IntKind.wrap .i64 n ∧ IntKind.wrap .i64 n ≤ 9223372036854775807 := by
  have e1 : (2 : Int) ^ 64 = 18446744073709551616 := by decide
  have e2 : (2 : Int) ^ (64 - 1) = 9223372036854775808 := by decide
  simp only [IntKind.wrap, IntKind.bits, IntKind.signed, Bool.true_and, decide_eq_true_eq, e1, e2]
  by_cases c : n % 18446744073709551616 ≥ 9223372036854775808
  · rw [if_pos c]; omega
  · rw [if_neg c]; omega
theorem ipU_ok {ρ : Rho} {a : X} {o : O1} {q : IP} {oa : Option IP} (ha : ∀ q, oa = some q → IPok ρ (a.den ρ).i q) (h : ipU o oa = some q) : IPok ρ ((X.un o a).den ρ).i q := by
  unfold ipU at h
  split at h
  · split at h
    · rename_i lo hi p
      obtain ⟨h1, h2, h3⟩ := ha _ rfl
      split at h
      · rename_i hf
        cases h
        have : -9223372036854775808 ≤ lo ∧ hi ≤ 9223372036854775807 := by
          unfold fit64 at hf
          rw [ilt_eq, ilt_eq] at hf
          split at hf
          · rename_i a1 a2
            have a1 := of_decide_eq_false a1
            have a2 := of_decide_eq_false a2
            omega
          · cases hf
        have hw : ((X.un (.wrap .i64) a).den ρ).i = (a.den ρ).i := wrap64_fit (by have : lo ≤ (a.den ρ).i := h1; omega) (by have : (a.den ρ).i ≤ hi := h2; omega)
        rw [hw]
        exact ⟨h1, h2, h3⟩
      · cases h
        exact ⟨(wrap64_in _).1, (wrap64_in _).2, fun p hp => by cases hp⟩
    · cases h
      exact ⟨(wrap64_in _).1, (wrap64_in _).2, fun p hp => by cases hp⟩
  · cases h
theorem two_ok {ρ : Rho} {f : Po → Po → Po} {p q : Option Po} {r : Po} (h : two f p q = some r) : ∃ a b, p = some a ∧ q = some b ∧ r = f a b := by
  unfold two at h
  split at h
  · cases h; exact ⟨_, _, rfl, rfl, rfl⟩
  · cases h
theorem ipB_ok {ρ : Rho} {a b : X} {o : O2} {q : IP} {oa ob : Option IP} (ha : ∀ q, oa = some q → IPok ρ (a.den ρ).i q) (hb : ∀ q, ob = some q → IPok ρ (b.den ρ).i q) (h : ipB o oa ob = some q) : IPok ρ ((X.bi o a b).den ρ).i q := by
  unfold ipB at h
  split at h
  · rename_i l h0 p l' h0' q'
    obtain ⟨a1, a2, a3⟩ := ha _ rfl
    obtain ⟨b1, b2, b3⟩ := hb _ rfl
    dsimp only at a1 a2 a3 b1 b2 b3
    split at h
    · cases h
      refine ⟨?_, ?_, fun r hr => ?_⟩
      · show l + l' ≤ (a.den ρ).i + (b.den ρ).i; omega
      · show (a.den ρ).i + (b.den ρ).i ≤ h0 + h0'; omega
      · obtain ⟨x, y, rfl, rfl, rfl⟩ := two_ok (ρ := ρ) hr
        rw [evP_addP, a3 _ rfl, b3 _ rfl]; rfl
    · cases h
      refine ⟨?_, ?_, fun r hr => ?_⟩
      · show l - h0' ≤ (a.den ρ).i - (b.den ρ).i; omega
      · show (a.den ρ).i - (b.den ρ).i ≤ h0 - l'; omega
      · obtain ⟨x, y, rfl, rfl, rfl⟩ := two_ok (ρ := ρ) hr
        rw [evP_addP, evP_negP, a3 _ rfl, b3 _ rfl]; exact Int.sub_eq_add_neg.symm
    · rw [ilt_eq, ilt_eq] at h
      split at h
      · rename_i c1 c2
        have c1 := of_decide_eq_false c1
        have c2 := of_decide_eq_false c2
        cases h
        refine ⟨?_, ?_, fun r hr => ?_⟩
        · show l * l' ≤ (a.den ρ).i * (b.den ρ).i
          exact Int.mul_le_mul a1 b1 (by omega) (by omega)
        · show (a.den ρ).i * (b.den ρ).i ≤ h0 * h0'
          exact Int.mul_le_mul a2 b2 (by omega) (by omega)
        · obtain ⟨x, y, rfl, rfl, rfl⟩ := two_ok (ρ := ρ) hr
          rw [evP_mulP, a3 _ rfl, b3 _ rfl]; rfl
      · cases h
    · have hm : ((X.bi .min a b).den ρ).i = if (b.den ρ).i < (a.den ρ).i then (b.den ρ).i else (a.den ρ).i := rfl
      rw [ilt_eq, ilt_eq] at h
      split at h
      · rename_i c
        have c := of_decide_eq_false c
        cases h
        rw [hm, if_neg (by omega)]
        exact ⟨a1, a2, a3⟩
      · split at h
        · rename_i c
          have c := of_decide_eq_false c
          cases h
          by_cases d : (b.den ρ).i < (a.den ρ).i
          · rw [hm, if_pos d]; exact ⟨b1, b2, b3⟩
          · have : (a.den ρ).i = (b.den ρ).i := by omega
            rw [hm, if_neg d, this]; exact ⟨b1, b2, b3⟩
        · cases h
          rw [hm]
          refine ⟨?_, ?_, fun r hr => by cases hr⟩
          · show imin l l' ≤ _
            rw [imin_eq]; split <;> split <;> omega
          · show _ ≤ imin h0 h0'
            rw [imin_eq]; split <;> split <;> omega
    · have hm : ((X.bi .max a b).den ρ).i = if (a.den ρ).i < (b.den ρ).i then (b.den ρ).i else (a.den ρ).i := rfl
      rw [ilt_eq, ilt_eq] at h
      split at h
      · rename_i c
        have c := of_decide_eq_false c
        cases h
        rw [hm, if_neg (by omega)]
        exact ⟨a1, a2, a3⟩
      · split at h
        · rename_i c
          have c := of_decide_eq_false c
          cases h
          by_cases d : (a.den ρ).i < (b.den ρ).i
          · rw [hm, if_pos d]; exact ⟨b1, b2, b3⟩
          · have : (a.den ρ).i = (b.den ρ).i := by omega
            rw [hm, if_neg d, this]; exact ⟨b1, b2, b3⟩
        · cases h
          rw [hm]
          refine ⟨?_, ?_, fun r hr => by cases hr⟩
          · show imax l l' ≤ _
            rw [imax_eq]; split <;> split <;> omega
          · show _ ≤ imax h0 h0'
            rw [imax_eq]; split <;> split <;> omega
    · cases h
  · cases h
theorem ip_ok {ρ : Rho} {e : Ev} (he : EvOK ρ e) : ∀ (x : X) {q : IP}, ip e x = some q → IPok ρ (x.den ρ).i q
  | .lit n, q, h => by
    cases h
    refine ⟨Int.le_refl _, Int.le_refl _, fun p hp => ?_⟩
    cases hp
    show n * 1 + 0 = n
    omega
  | .bl _, q, h => by cases h
  | .v i, q, h => by
    unfold ip at h
    split at h
    · rename_i l hh hl
      cases h
      refine ⟨(he _ _ _ hl).1, (he _ _ _ hl).2, fun p hp => ?_⟩
      cases hp
      show 1 * ((ρ.v i).i * 1) + 0 = (ρ.v i).i
      omega
    · cases h
  | .un o a, q, h => ipU_ok (fun q => ip_ok he a) h
  | .bi o a b, q, h => ipB_ok (fun q => ip_ok he a) (fun q => ip_ok he b) h
  | .tr _ _ _ _, q, h => by cases h
end Go.Run
