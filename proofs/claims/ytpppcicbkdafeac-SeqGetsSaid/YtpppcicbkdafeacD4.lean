/- Own text, written by an own program: D4. -/
import Derived.Test.YtpppcicbkdafeacD3
import Derived.Test.YtpppcicbkdafeacP8
namespace Go.Eng
open Go.Proofs Go.RowKit Go.Proofs.YtpppcicbkdafeacW.PrintWords Go.Proofs.Ytpppcicbkdafeac.GSeq
set_option linter.unusedVariables false
set_option linter.unusedSimpArgs false
theorem Con.of {P : Program} {f : FuncId} {args : Array Value} {w : World} {H : List Nat} {L : HL} {C C' : (Value → HL → Prop) → Prop} (h : Con P f args w H L C) (hc : ∀ X, C' X → C X) : Con P f args w H L C' := fun ht X hX => h ht X (hc X hX)
/-- The keys from one on. -/
def kf (l : List S52) (k : Int) : List Int := (l.filter (fun p => decide (k ≤ p.f0))).map (·.f0)
theorem drop_lb {l : List S52} (hs : Srt l) (k : Int) : l.drop (lb l k) = l.filter (fun p => decide (k ≤ p.f0)) := by
  induction l with
  | nil => rfl
  | cons p l ih =>
    obtain ⟨h1, h2⟩ := srt_cons.1 hs
    by_cases hp : p.f0 < k
    · have hn : ¬ k ≤ p.f0 := by omega
      rw [lb_lt hp, List.drop_succ_cons, ih h2, List.filter_cons]
      simp [hn]
    · rw [lb_ge hp, List.drop_zero]
      symm
      rw [List.filter_eq_self]
      intro q hq
      rcases List.mem_cons.1 hq with rfl | hq
      · simp; omega
      · have := h1 q hq; simp; omega
theorem keysFrom_lb {l : List S52} (hs : Srt l) (k : Int) : KeysFrom l (lb l k) = kf l k := by unfold KeysFrom kf; rw [drop_lb hs]
theorem kf_srt {l : List S52} (hs : Srt l) (k : Int) : (kf l k).Pairwise (· < ·) := by
  unfold kf
  rw [List.pairwise_map]
  exact srt_filter hs _
def ceilM (l : List S52) (k : Int) : Bool × Bool × Int × List Int := match kf l k with
  | [] => (false, false, 0, [])
  | x :: _ => (false, true, x, [])
def rngM (l : List S52) (k v n : Int) : List Int := ((kf l k).filter (fun x => decide (x ≤ v))).take n.toNat
def Dm (l : List S52) (o0 o1 o2 o3 : Int) : List S52 × Bool × Bool × Int × List Int :=
  if o0 = 1 then (l, getM l o1) else if o0 = 2 then (ins l o1 o2, getM l o1) else if o0 = 3 then (del l o1, getM l o1) else if o0 = 4 then (l, ceilM l o1) else if o0 = 5 then (l, false, false, 0, rngM l o1 o2 o3) else (l, false, false, 0, [])
theorem rng_all {l : List S52} {k v n : Int} (h1 : ∀ y ∈ kf l k, y ≤ v) (h2 : ∀ i : Nat, i < (kf l k).length → (i : Int) < n) : rngM l k v n = kf l k := by
  unfold rngM
  rw [List.filter_eq_self.2 (fun y hy => by simpa using h1 y hy), List.take_of_length_le]
  cases h : (kf l k).length with
  | zero => omega
  | succ m => have := h2 m (by omega); omega
theorem rng_some {l : List S52} (hs : Srt l) {k v n x : Int} {p : List Int} (hp : p ++ [x] <+: kf l k) (h1 : ∀ y ∈ p, y ≤ v) (h2 : ∀ i : Nat, i < p.length → (i : Int) < n) (h3 : v < x ∨ n ≤ (p.length : Int)) : rngM l k v n = p := by
  obtain ⟨t, ht⟩ := hp
  have hsr := kf_srt hs k
  unfold rngM
  rw [← ht] at hsr ⊢
  have hfp : p.filter (fun x => decide (x ≤ v)) = p := List.filter_eq_self.2 (fun y hy => by simpa using h1 y hy)
  have hle : p.length ≤ n.toNat := by
    cases h : p.length with
    | zero => omega
    | succ m => have := h2 m (by omega); omega
  rw [List.append_assoc, List.filter_append, hfp]
  rcases h3 with h3 | h3
  · have : ([x] ++ t).filter (fun x => decide (x ≤ v)) = [] := by
      rw [List.filter_eq_nil_iff]
      intro y hy
      rcases List.mem_append.1 hy with hy | hy
      · have : y = x := by simpa using hy
        simp; omega
      · have := (List.pairwise_append.1 hsr).2.2 x (by simp) y hy
        simp; omega
    rw [this, List.append_nil, List.take_of_length_le hle]
  · have : n.toNat = p.length := by omega
    rw [this, List.take_left]
set_option maxRecDepth 100000 in
theorem do_con (A : Option Addr) (c : Nat) (l : List S52) (o0 o1 o2 o3 o4 : Int) (hs : Srt l) (hl : l.length ≤ 1000) (w0 : World) (H : List Nat) : Con Try.prog 11 #[.agg #[.slice A l.length c], .agg #[.int .i64 o0, .int .u64 o1, .int .u64 o2, .int .i64 o3, .int .i64 o4]] w0 H [.f (KC k52 A c l)]
    (fun X => ∀ A1 c1 A2 c2, X (.tuple #[.agg #[.slice A1 (Dm l o0 o1 o2 o3).1.length c1], .agg #[.bool (Dm l o0 o1 o2 o3).2.1, .bool (Dm l o0 o1 o2 o3).2.2.1, .int .u64 (Dm l o0 o1 o2 o3).2.2.2.1, .slice A2 (Dm l o0 o1 o2 o3).2.2.2.2.length c2]]) [.f (KC k52 A1 c1 (Dm l o0 o1 o2 o3).1), .f (KC (Kd.int .u64) A2 c2 (Dm l o0 o1 o2 o3).2.2.2.2)]) := by
  have hg := get_f l o1 hs hl 5000 (by omega)
  have hp := place l o1 hs hl 5000 (by omega)
  by_cases h1 : o0 = 1
  · subst h1
    exact (do_get 5000 A c l o1 o2 o3 o4 _ _ _ _ hg w0 H).of (fun X hX A1 c1 A2 c2 => hX A1 c1 A2 c2)
  by_cases h2 : o0 = 2
  · subst h2
    exact (do_put 5000 A c l o1 o2 o3 o4 _ _ _ _ _ (with_f l o1 o2 hs hl 5000 (by omega)) hg w0 H).of (fun X hX A1 c1 A2 c2 => hX A1 c1 A2 c2)
  by_cases h3 : o0 = 3
  · subst h3
    exact (do_delete 5000 A c l o1 o2 o3 o4 _ _ _ _ _ _ (without_f l o1 hs hl 5000 (by omega)) hg w0 H).of (fun X hX A1 c1 A2 c2 => hX A1 c1 A2 c2)
  by_cases h4 : o0 = 4
  · subst h4
    refine (do_ceiling 5000 A c l o1 o2 o3 o4 _ _ hp (lb_le l o1) (by omega) (ceilM l o1).2.1 (ceilM l o1).2.2.1 ?_ ?_ w0 H).of (fun X hX A2 c2 => ?_)
    · rw [keysFrom_lb hs]; intro h; simp [ceilM, h]
    · rw [keysFrom_lb hs]; rintro x ⟨t, h⟩; simp [ceilM, ← h]
    · have e1 : (ceilM l o1).1 = false := by unfold ceilM; split <;> rfl
      have e2 : (ceilM l o1).2.2.2 = [] := by unfold ceilM; split <;> rfl
      have h := hX A c A2 c2
      have hD : Dm l 4 o1 o2 o3 = (l, ceilM l o1) := by simp [Dm]
      rw [hD] at h
      rw [show ceilM l o1 = (false, (ceilM l o1).2.1, (ceilM l o1).2.2.1, []) from by conv => lhs; rw [show ceilM l o1 = ((ceilM l o1).1, (ceilM l o1).2.1, (ceilM l o1).2.2.1, (ceilM l o1).2.2.2) from rfl, e1, e2]] at h
      exact h
  by_cases h5 : o0 = 5
  · subst h5
    refine (do_range 5000 A c l o1 o2 o3 o4 _ _ hp (lb_le l o1) (by omega) (rngM l o1 o2 o3) ?_ ?_ w0 H).of (fun X hX A2 c2 => ?_)
    · rw [keysFrom_lb hs]; exact rng_all
    · rw [keysFrom_lb hs]; exact fun p x hp h1 h2 h3 => rng_some hs hp h1 h2 h3
    · have h := hX A c A2 c2
      have hD : Dm l 5 o1 o2 o3 = (l, false, false, 0, rngM l o1 o2 o3) := by simp [Dm]
      rw [hD] at h
      exact h
  · refine (do_other 5000 A c l o1 o2 o3 o4 o0 (by simpa using h1) (by simpa using h2) (by simpa using h3) (by simpa using h4) (by simpa using h5) w0 H).of (fun X hX A2 c2 => ?_)
    have h := hX A c A2 c2
    have hD : Dm l o0 o1 o2 o3 = (l, false, false, 0, []) := by simp [Dm, h1, h2, h3, h4, h5]
    rw [hD] at h
    exact h
theorem do_conr (A : Option Addr) (c : Nat) (l : List S52) (o0 o1 o2 o3 o4 : Int) (hs : Srt l) (hl : l.length ≤ 1000) (m : List S52) (q0 q1 : Bool) (q2 : Int) (q3 : List Int) (hr : Dm l o0 o1 o2 o3 = (m, q0, q1, q2, q3)) (w0 : World) (H : List Nat) : Con Try.prog 11 #[.agg #[.slice A l.length c], .agg #[.int .i64 o0, .int .u64 o1, .int .u64 o2, .int .i64 o3, .int .i64 o4]] w0 H [.f (KC k52 A c l)]
    (fun X => ∀ A1 c1 A2 c2, X (.tuple #[.agg #[.slice A1 m.length c1], .agg #[.bool q0, .bool q1, .int .u64 q2, .slice A2 q3.length c2]]) [.f (KC k52 A1 c1 m), .f (KC (Kd.int .u64) A2 c2 q3)]) := by
  have h := do_con A c l o0 o1 o2 o3 o4 hs hl w0 H
  rw [hr] at h
  exact h
end Go.Eng
