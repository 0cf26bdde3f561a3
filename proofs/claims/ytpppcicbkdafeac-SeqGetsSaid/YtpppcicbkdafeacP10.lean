/- Own text, written by an own program: P10. -/
import Derived.Test.YtpppcicbkdafeacP9
namespace Go.Eng
open Go.Proofs Go.RowKit Go.Proofs.YtpppcicbkdafeacW.PrintWords Go.Proofs.Ytpppcicbkdafeac.GSeq
set_option linter.unusedVariables false
set_option linter.unusedSimpArgs false
theorem inc64 {i : Nat} (h : i < 1000000) : Value.int .i64 (IntKind.wrap .i64 (((i : Nat) : Int) + 1)) = .int .i64 ((i + 1 : Nat) : Int) := by
  congr 1
  simp only [IntKind.wrap, IntKind.bits, IntKind.signed]
  simp
  omega
theorem rdo {l : List S52} {i : Nat} (h : i < l.length) : (rd_T62 (l.map old) (i : Int)).f0 = (l[i]).f0 := by
  rw [rd62, Int.toNat_natCast, List.getD_eq_getElem?_getD, List.getElem?_eq_getElem h]; rfl
theorem kf_take {l : List S52} {i : Nat} (h : i < l.length) (k : Int) : kf (l.take (i + 1)) k = kf (l.take i) k ++ (if k ≤ (l[i]).f0 then [(l[i]).f0] else []) := by
  rw [List.take_succ_eq_append_getElem h, kf, List.filter_append, List.map_append]
  congr 1
  by_cases hk : k ≤ (l[i]).f0 <;> simp [List.filter_cons, hk]
theorem kf_split (l : List S52) (i : Nat) (k : Int) : kf l k = kf (l.take i) k ++ kf (l.drop i) k := by
  unfold kf
  rw [← List.map_append, ← List.filter_append, List.take_append_drop]
theorem kf_hit {l : List S52} {i : Nat} (h : i < l.length) {k : Int} (h0 : kf (l.take i) k = []) (hk : k ≤ (l[i]).f0) : ceilM l k = (false, true, (l[i]).f0, []) := by
  have : kf l k = (l[i]).f0 :: kf (l.drop (i + 1)) k := by
    rw [kf_split l (i + 1) k, kf_take h, h0, if_pos hk]; rfl
  simp [ceilM, this]
theorem kf_miss {l : List S52} {k : Int} (h0 : kf (l.take l.length) k = []) : ceilM l k = (false, false, 0, []) := by
  rw [List.take_length] at h0
  simp [ceilM, h0]
theorem rng_take {l : List S52} {i : Nat} (h : i < l.length) (k v n : Int) : rngM (l.take (i + 1)) k v n = if k ≤ (l[i]).f0 ∧ (l[i]).f0 ≤ v ∧ ((rngM (l.take i) k v n).length : Int) < n then rngM (l.take i) k v n ++ [(l[i]).f0] else rngM (l.take i) k v n := by
  unfold rngM
  rw [kf_take h, List.filter_append]
  by_cases h1 : k ≤ (l[i]).f0
  · by_cases h2 : (l[i]).f0 ≤ v
    · simp only [h1, h2, if_true, List.filter_cons, decide_true, List.filter_nil, true_and]
      generalize (kf (l.take i) k).filter (fun x => decide (x ≤ v)) = m
      rw [List.length_take]
      by_cases h3 : m.length < n.toNat
      · rw [if_pos (by omega), List.take_of_length_le (by simp; omega), List.take_of_length_le (by omega)]
      · rw [if_neg (by omega), List.take_append_of_le_length (by omega)]
    · simp [h1, h2, List.filter_cons]
  · simp [h1]
theorem rng_len (l : List S52) (k v n : Int) : (rngM l k v n).length ≤ l.length := by
  unfold rngM kf
  refine Nat.le_trans (List.length_take_le' _ _) (Nat.le_trans (List.length_filter_le _ _) ?_)
  rw [List.length_map]
  exact List.length_filter_le _ _
end Go.Eng
