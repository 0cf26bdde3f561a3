/- Own text, written by an own program: P12. -/
import Derived.Test.YtpppcicbkdafeacP11
namespace Go.Eng
open Go.Proofs Go.RowKit Go.Proofs.YtpppcicbkdafeacW.PrintWords Go.Proofs.Ytpppcicbkdafeac.GSeq
set_option linter.unusedVariables false
set_option linter.unusedSimpArgs false
theorem u64_le {n : Int} (h : (Lit.int .u64 n).wf = true) : n ≤ 18446744073709551615 := by
  have : 0 ≤ n ∧ n ≤ 18446744073709551615 := by simpa [Lit.wf, IntKind.min, IntKind.max, IntKind.signed, IntKind.bits] using h
  exact this.2
theorem mem_ins {l : List S52} {k v : Int} {p : S52} (h : p ∈ ins l k v) : p = ⟨k, v⟩ ∨ p ∈ l := by
  unfold ins at h
  rcases List.mem_append.1 h with h | h
  · rcases List.mem_append.1 h with h | h
    · exact .inr (List.mem_filter.1 h).1
    · exact .inl (by simpa using h)
  · exact .inr (List.mem_filter.1 h).1
theorem mem_ofL (l : List S52) : ∀ (acc : List S52) (p : S52), p ∈ ofL acc l → p ∈ acc ∨ p ∈ l := by
  induction l with
  | nil => exact fun acc p h => .inl h
  | cons x r ih =>
    intro acc p h
    rcases ih _ p h with h | h
    · rcases mem_ins h with rfl | h
      · exact .inr List.mem_cons_self
      · exact .inl h
    · exact .inr (List.mem_cons_of_mem _ h)
theorem getM_mem {l : List S52} {p : S52} (hp : p ∈ l) : ∃ v, getM l p.f0 = (false, true, v, []) := by
  unfold getM
  cases h : l.find? (fun q => q.f0 == p.f0) with
  | none => have := List.find?_eq_none.1 h p hp; simp at this
  | some q => exact ⟨q.f1, rfl⟩
theorem getM_shape (l : List S52) (o : Int) : ∃ q v, getM l o = (false, q, v, []) ∧ (q = true → ∃ p ∈ l, p.f0 = o) := by
  unfold getM
  cases h : l.find? (fun q => q.f0 == o) with
  | none => exact ⟨false, 0, rfl, fun h => by cases h⟩
  | some q => exact ⟨true, q.f1, rfl, fun _ => ⟨q, List.mem_of_find?_eq_some h, by simpa using List.find?_some h⟩⟩
theorem mem_kf {l : List S52} {k x : Int} (h : x ∈ kf l k) : k ≤ x ∧ ∃ p ∈ l, p.f0 = x := by
  unfold kf at h
  obtain ⟨p, hp, rfl⟩ := List.mem_map.1 h
  obtain ⟨h1, h2⟩ := List.mem_filter.1 hp
  exact ⟨by simpa using h2, p, h1, rfl⟩
theorem kf_mem {l : List S52} {k : Int} {p : S52} (hp : p ∈ l) (h : k ≤ p.f0) : p.f0 ∈ kf l k := by
  unfold kf
  exact List.mem_map.2 ⟨p, List.mem_filter.2 ⟨hp, by simpa using h⟩, rfl⟩
theorem ceil_law {M : List S52} (hs : Srt M) (hw : ∀ p ∈ M, p.f0 ≤ 18446744073709551615) (k o : Int) : (Dm M 4 k 0 0 = (M, false, false, 0, []) ∧ Dm M 5 k 18446744073709551615 1 = (M, false, false, 0, [])) ∨ ∃ x v qx qv, Dm M 4 k 0 0 = (M, false, true, x, []) ∧ Dm M 5 k 18446744073709551615 1 = (M, false, false, 0, [x]) ∧ k ≤ x ∧ Dm M 1 x 0 0 = (M, false, true, v, []) ∧ Dm M 1 o 0 0 = (M, false, qx, qv, []) ∧ (qx = true → o < k ∨ x ≤ o) := by
  cases h : kf M k with
  | nil => exact .inl ⟨by simp [Dm, ceilM, h], by simp [Dm, rngM, h]⟩
  | cons x r =>
    obtain ⟨hkx, p, hp, hpx⟩ := mem_kf (show x ∈ kf M k from h ▸ List.mem_cons_self)
    obtain ⟨v, hv⟩ := getM_mem hp
    obtain ⟨qx, qv, hq, hqi⟩ := getM_shape M o
    rw [hpx] at hv
    have hxw : x ≤ 18446744073709551615 := by have := hw p hp; omega
    refine .inr ⟨x, v, qx, qv, by simp [Dm, ceilM, h], ?_, hkx, by simp [Dm, hv], by simp [Dm, hq], fun ht => ?_⟩
    · simp [Dm, rngM, h, List.filter_cons, hxw]
    · obtain ⟨p', hp', rfl⟩ := hqi ht
      by_cases ho : p'.f0 < k
      · exact .inl ho
      · have hm := kf_mem hp' (show k ≤ p'.f0 by omega)
        rw [h] at hm
        rcases List.mem_cons.1 hm with e | hm
        · exact .inr (by omega)
        · have hsr := kf_srt hs k
          rw [h] at hsr
          have := (List.pairwise_cons.1 hsr).1 _ hm
          exact .inr (by omega)
theorem find_filter_none {l : List S52} {q p : S52 → Bool} (h : ∀ x, p x = true → q x = false) : (l.filter q).find? p = none := by
  rw [List.find?_eq_none]
  intro x hx hp
  have := (List.mem_filter.1 hx).2
  rw [h x hp] at this
  cases this
theorem find_filter_same {l : List S52} {q p : S52 → Bool} (h : ∀ x, p x = true → q x = true) : (l.filter q).find? p = l.find? p := by
  rw [List.find?_filter]
  congr 1
  funext x
  cases hp : p x with
  | false => simp
  | true => simp [h x hp]
theorem eqk {x : S52} {o : Int} (h : (x.f0 == o) = true) : x.f0 = o := by simpa using h
theorem ff_lt (l : List S52) {k o : Int} (h : o < k) : (l.filter (fun p => decide (p.f0 < k))).find? (fun p => p.f0 == o) = l.find? (fun p => p.f0 == o) :=
  find_filter_same (q := fun p : S52 => decide (p.f0 < k)) (p := fun p : S52 => p.f0 == o) (fun x hx => by have := eqk hx; simp; omega)
theorem ff_gt (l : List S52) {k o : Int} (h : k < o) : (l.filter (fun p => decide (k < p.f0))).find? (fun p => p.f0 == o) = l.find? (fun p => p.f0 == o) :=
  find_filter_same (q := fun p : S52 => decide (k < p.f0)) (p := fun p : S52 => p.f0 == o) (fun x hx => by have := eqk hx; simp; omega)
theorem fn_lt (l : List S52) {k o : Int} (h : k ≤ o) : (l.filter (fun p => decide (p.f0 < k))).find? (fun p => p.f0 == o) = none :=
  find_filter_none (q := fun p : S52 => decide (p.f0 < k)) (p := fun p : S52 => p.f0 == o) (fun x hx => by have := eqk hx; simp; omega)
theorem fn_gt (l : List S52) {k o : Int} (h : o ≤ k) : (l.filter (fun p => decide (k < p.f0))).find? (fun p => p.f0 == o) = none :=
  find_filter_none (q := fun p : S52 => decide (k < p.f0)) (p := fun p : S52 => p.f0 == o) (fun x hx => by have := eqk hx; simp; omega)
theorem getM_ins_ne (l : List S52) {k v o : Int} (h : o ≠ k) : getM (ins l k v) o = getM l o := by
  have hk : ((⟨k, v⟩ : S52).f0 == o) = false := by simp; omega
  have hm : [(⟨k, v⟩ : S52)].find? (fun p => p.f0 == o) = none := by rw [List.find?_cons, hk]; rfl
  unfold getM ins
  rw [List.find?_append, List.find?_append, hm]
  by_cases ho : o < k
  · rw [ff_lt l ho, fn_gt l (by omega)]; simp
  · rw [fn_lt l (by omega), ff_gt l (by omega)]; simp
theorem getM_ins_eq (l : List S52) (k v : Int) : getM (ins l k v) k = (false, true, v, []) := by
  unfold getM ins
  rw [List.find?_append, List.find?_append, fn_lt l (Int.le_refl k)]
  simp
theorem getM_del_ne (l : List S52) {k o : Int} (h : o ≠ k) : getM (del l k) o = getM l o := by
  unfold getM del
  rw [find_filter_same (q := fun p : S52 => !(p.f0 == k)) (p := fun p : S52 => p.f0 == o) (fun x hx => by have := eqk hx; simp; omega)]
theorem getM_del_eq (l : List S52) (k : Int) : getM (del l k) k = (false, false, 0, []) := by
  unfold getM del
  rw [find_filter_none (q := fun p : S52 => !(p.f0 == k)) (p := fun p : S52 => p.f0 == k) (fun x hx => by have := eqk hx; simp; omega)]
theorem rng_mem {M : List S52} {k v n x : Int} (h : x ∈ rngM M k v n) : k ≤ x ∧ x ≤ v ∧ ∃ q, Dm M 1 x 0 0 = (M, false, true, q, []) := by
  unfold rngM at h
  obtain ⟨h1, h2⟩ := List.mem_filter.1 (List.mem_of_mem_take h)
  obtain ⟨h3, p, hp, rfl⟩ := mem_kf h1
  obtain ⟨q, hq⟩ := getM_mem hp
  exact ⟨h3, by simpa using h2, q, by simp [Dm, hq]⟩
theorem rng_srt {M : List S52} (hs : Srt M) (k v n : Int) : (rngM M k v n).Pairwise (· < ·) := by
  unfold rngM
  exact List.Pairwise.sublist (List.take_sublist _ _) (List.Pairwise.filter _ (kf_srt hs k))
theorem rng_step {M : List S52} (hs : Srt M) {k v n : Int} {i : Nat} (h : i + 1 < (rngM M k v n).length) : (rngM M k v n)[i] < (rngM M k v n)[i + 1] :=
  List.pairwise_iff_getElem.1 (rng_srt hs k v n) i (i + 1) (by omega) h (by omega)
/-- How many of some pairs lie between two keys. -/
def cntM (l : List S52) (k v : Int) : Nat := ((kf l k).filter (fun x => decide (x ≤ v))).length
theorem cnt_take {l : List S52} {i : Nat} (h : i < l.length) (k v : Int) : cntM (l.take (i + 1)) k v = if k ≤ (l[i]).f0 ∧ (l[i]).f0 ≤ v then cntM (l.take i) k v + 1 else cntM (l.take i) k v := by
  unfold cntM
  rw [kf_take h, List.filter_append, List.length_append]
  by_cases h1 : k ≤ (l[i]).f0 <;> by_cases h2 : (l[i]).f0 ≤ v <;> simp [h1, h2, List.filter_cons]
theorem rng_cnt (M : List S52) (k v n : Int) : ((rngM M k v n).length : Int) = (if (0 : Int) < (if n < (cntM M k v : Int) then n else (cntM M k v : Int)) then (if n < (cntM M k v : Int) then n else (cntM M k v : Int)) else 0) := by
  unfold rngM cntM
  rw [List.length_take]
  split <;> split <;> omega
end Go.Eng
