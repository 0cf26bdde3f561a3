/- Own text, written by an own program: P7. -/
import Derived.Test.YtpppcicbkdafeacSeqFrom
namespace Go.Eng
open Go.Proofs Go.RowKit Go.Proofs.YtpppcicbkdafeacW.PrintWords Go.Proofs.Ytpppcicbkdafeac.GSeq
set_option linter.unusedVariables false
set_option linter.unusedSimpArgs false
def Srt (l : List S52) : Prop := l.Pairwise (fun a b => a.f0 < b.f0)
def old (x : S52) : S62 := ⟨x.f0, x.f1⟩
def new (x : S62) : S52 := ⟨x.f0, x.f1⟩
def lb (l : List S52) (k : Int) : Nat := (l.takeWhile (fun p => decide (p.f0 < k))).length
def isIn (l : List S52) (k : Int) : Bool := l.any (fun p => p.f0 == k)
def del (l : List S52) (k : Int) : List S52 := l.filter (fun p => !(p.f0 == k))
def ins (l : List S52) (k v : Int) : List S52 := l.filter (fun p => decide (p.f0 < k)) ++ [⟨k, v⟩] ++ l.filter (fun p => decide (k < p.f0))
def getM (l : List S52) (k : Int) : Bool × Bool × Int × List Int := match l.find? (fun p => p.f0 == k) with
  | some p => (false, true, p.f1, [])
  | none => (false, false, 0, [])
theorem w64 {i : Int} (h0 : 0 ≤ i) (h1 : i < 1000000) : wrap64 (i + 1) = i + 1 := by unfold wrap64; omega
theorem w64' {i : Int} (h0 : 0 ≤ i) (h1 : i < 10000000) : wrap64 i = i := by unfold wrap64; omega
theorem mid {a : Int} (h0 : 0 ≤ a) (h1 : a < 10000000) : wrap64 ((IntKind.u64.wrap (wrap64 a)) / 2) = a / 2 := by
  rw [w64' h0 h1]
  have : IntKind.u64.wrap a = a := by
    simp only [IntKind.wrap, IntKind.bits, IntKind.signed]
    simp
    omega
  rw [this, w64' (by omega) (by omega)]
theorem srt_cons {p : S52} {l : List S52} : Srt (p :: l) ↔ (∀ q ∈ l, p.f0 < q.f0) ∧ Srt l := List.pairwise_cons
theorem lb_nil (k : Int) : lb [] k = 0 := rfl
theorem lb_lt {p : S52} {l : List S52} {k : Int} (h : p.f0 < k) : lb (p :: l) k = lb l k + 1 := by simp [lb, h]
theorem lb_ge {p : S52} {l : List S52} {k : Int} (h : ¬ p.f0 < k) : lb (p :: l) k = 0 := by simp [lb, h]
theorem lb_le (l : List S52) (k : Int) : lb l k ≤ l.length := by
  unfold lb
  exact List.IsPrefix.length_le (List.takeWhile_prefix _)
theorem lb_spec {l : List S52} (hs : Srt l) (k : Int) : ∀ i (h : i < l.length), (l[i]).f0 < k ↔ i < lb l k := by
  induction l with
  | nil => intro i h; cases h
  | cons p l ih =>
    obtain ⟨h1, h2⟩ := srt_cons.1 hs
    intro i h
    by_cases hp : p.f0 < k
    · rw [lb_lt hp]
      cases i with
      | zero => simp [hp]
      | succ i => simp only [List.getElem_cons_succ]; rw [ih h2 i (by simpa using h)]; omega
    · rw [lb_ge hp]
      cases i with
      | zero => simp [hp]
      | succ i =>
        simp only [List.getElem_cons_succ]
        have := h1 _ (List.getElem_mem (l := l) (n := i) (by simpa using h))
        constructor
        · intro hh; omega
        · intro hh; omega
theorem isIn_spec {l : List S52} (hs : Srt l) (k : Int) : isIn l k = if h : lb l k < l.length then (l[lb l k]).f0 == k else false := by
  induction l with
  | nil => rfl
  | cons p l ih =>
    obtain ⟨h1, h2⟩ := srt_cons.1 hs
    by_cases hp : p.f0 < k
    · have e : isIn (p :: l) k = isIn l k := by
        simp only [isIn, List.any_cons]
        have : (p.f0 == k) = false := by simp; omega
        rw [this, Bool.false_or]
      rw [e, ih h2]
      simp only [lb_lt hp, List.length_cons, Nat.add_lt_add_iff_right, List.getElem_cons_succ]
    · simp only [lb_ge hp, List.length_cons, Nat.zero_lt_succ, dite_true, List.getElem_cons_zero]
      simp only [isIn, List.any_cons]
      by_cases e : p.f0 = k
      · simp [e]
      · have : l.any (fun p => p.f0 == k) = false := by
          rw [List.any_eq_false]
          intro q hq
          have := h1 q hq
          simp; omega
        rw [this, Bool.or_false]
theorem to_f (a b k : Int) : seq_Pair_to.f a b k = some (if a < k then -1 else if a > k then 1 else 0) := by
  simp [seq_Pair_to.f, cmp_Compare_uint64.f, cmp_isNaN_uint64.f]
  split
  · rfl
  · split <;> rfl
theorem rd52 {l : List S52} {i : Nat} (h : i < l.length) : rd_T52 l (i : Int) = l[i] := by
  simp [rd_T52, List.getD_eq_getElem?_getD, h]
theorem place_l (l : List S52) (k : Int) (hs : Srt l) (hl : l.length ≤ 1000) : ∀ (d f lo hi : Nat), hi - lo ≤ d → d < f → lo ≤ lb l k → lb l k ≤ hi → hi ≤ l.length →
    seq_Pair_uint64.l0 f l k (l.length : Int) (lo : Int) (hi : Int) = some (((lb l k : Nat) : Int), isIn l k) := by
  intro d
  induction d with
  | zero =>
    intro f lo hi hd hf h1 h2 h3
    obtain ⟨f, rfl⟩ : ∃ m, f = m + 1 := ⟨f - 1, by omega⟩
    have e : lo = lb l k := by omega
    subst e
    simp only [seq_Pair_uint64.l0]
    rw [if_neg (by omega), isIn_spec hs]
    by_cases hlt : lb l k < l.length
    · rw [if_pos (by omega), if_pos (by omega), if_pos (by omega), to_f, rd52 hlt, dif_pos hlt]
      have := (lb_spec hs k _ hlt)
      have h4 : ¬ (l[lb l k]).f0 < k := by rw [this]; omega
      rw [if_neg h4]
      simp only [Option.bind_some]
      by_cases h5 : (l[lb l k]).f0 > k
      · rw [if_pos h5]
        have : ((l[lb l k]).f0 == k) = false := by simp; omega
        rw [this]; rfl
      · rw [if_neg h5]
        have : ((l[lb l k]).f0 == k) = true := by simp; omega
        rw [this]; rfl
    · rw [if_neg (by omega), dif_neg hlt]
  | succ d ih =>
    intro f lo hi hd hf h1 h2 h3
    by_cases hlt : lo < hi
    · obtain ⟨f, rfl⟩ : ∃ m, f = m + 1 := ⟨f - 1, by omega⟩
      simp only [seq_Pair_uint64.l0]
      have hm : wrap64 ((IntKind.u64.wrap (wrap64 ((lo : Int) + hi))) / 2) = (((lo + hi) / 2 : Nat) : Int) := by rw [mid (by omega) (by omega)]; omega
      have hb : (lo + hi) / 2 < l.length := by omega
      rw [if_pos (by omega), hm, if_pos (by omega), if_pos (by omega), to_f, rd52 hb]
      simp only [Option.bind_some]
      have hsp := lb_spec hs k _ hb
      by_cases hc : (l[(lo + hi) / 2]).f0 < k
      · rw [if_pos hc, if_pos (by decide), show ((((lo + hi) / 2 : Nat) : Int) + 1) = (((lo + hi) / 2 + 1 : Nat) : Int) by omega, w64' (by omega) (by omega)]
        exact ih f _ hi (by omega) (by omega) (by have := hsp.1 hc; omega) h2 h3
      · have hneg : ¬ ((if (l[(lo + hi) / 2]).f0 < k then (-1 : Int) else if (l[(lo + hi) / 2]).f0 > k then 1 else 0) < 0) := by rw [if_neg hc]; split <;> decide
        rw [if_neg hneg]
        exact ih f lo _ (by omega) (by omega) h1 (by have : ¬ (lo + hi) / 2 < lb l k := fun h => hc (hsp.2 h); omega) (by omega)
    · exact ih f lo hi (by omega) (by omega) h1 h2 h3
theorem place (l : List S52) (k : Int) (hs : Srt l) (hl : l.length ≤ 1000) (f : Nat) (hf : 1000 < f) : seq_Map_place.f f l k = some (((lb l k : Nat) : Int), isIn l k) := by
  have := place_l l k hs hl l.length f 0 l.length (by omega) (by omega) (by omega) (lb_le l k) (by omega)
  unfold seq_Map_place.f seq_Pair_uint64.f
  simp only [Int.natCast_zero] at this
  rw [this]; rfl
theorem getM_nth {l : List S52} (hs : Srt l) (k : Int) : getM l k = if h : lb l k < l.length then (if (l[lb l k]).f0 == k then (false, true, (l[lb l k]).f1, []) else (false, false, 0, [])) else (false, false, 0, []) := by
  induction l with
  | nil => rfl
  | cons p l ih =>
    obtain ⟨h1, h2⟩ := srt_cons.1 hs
    by_cases hp : p.f0 < k
    · have e : getM (p :: l) k = getM l k := by
        have : (p.f0 == k) = false := by simp; omega
        simp only [getM, List.find?_cons, this]
      rw [e, ih h2]
      simp only [lb_lt hp, List.length_cons, Nat.add_lt_add_iff_right, List.getElem_cons_succ]
    · simp only [lb_ge hp, List.length_cons, Nat.zero_lt_succ, dite_true, List.getElem_cons_zero]
      by_cases e : p.f0 = k
      · simp [getM, e]
      · have e' : (p.f0 == k) = false := by simpa using e
        have : l.find? (fun p => p.f0 == k) = none := by
          rw [List.find?_eq_none]
          intro q hq
          have := h1 q hq
          simp; omega
        simp [getM, List.find?_cons, e', this]
theorem get_f (l : List S52) (k : Int) (hs : Srt l) (hl : l.length ≤ 1000) (f : Nat) (hf : 1000 < f) : seq_Map_get.f f l k = some (getM l k) := by
  unfold seq_Map_get.f
  rw [place l k hs hl f hf, Option.bind_some, isIn_spec hs, getM_nth hs]
  by_cases h : lb l k < l.length
  · simp only [dif_pos h]
    by_cases e : (l[lb l k]).f0 == k
    · rw [if_pos e, if_pos (by omega), if_pos (by omega), if_pos e, rd52 h]
    · rw [if_neg e, if_neg e]
  · simp only [dif_neg h]
    rfl
theorem del_eq {l : List S52} (hs : Srt l) (k : Int) : (if isIn l k = true then l.eraseIdx (lb l k) else l) = del l k := by
  induction l with
  | nil => rfl
  | cons p l ih =>
    obtain ⟨h1, h2⟩ := srt_cons.1 hs
    by_cases hp : p.f0 < k
    · have e : (p.f0 == k) = false := by simp; omega
      have e1 : isIn (p :: l) k = isIn l k := by simp only [isIn, List.any_cons, e, Bool.false_or]
      have e2 : del (p :: l) k = p :: del l k := by simp [del, List.filter_cons, e]
      rw [e1, e2, lb_lt hp, ← ih h2]
      by_cases h : isIn l k = true
      · rw [if_pos h, if_pos h, List.eraseIdx_cons_succ]
      · rw [if_neg h, if_neg h]
    · have hall : del l k = l := by
        rw [del, List.filter_eq_self]
        intro q hq
        have := h1 q hq
        simp; omega
      have hno : isIn l k = false := by
        rw [isIn, List.any_eq_false]
        intro q hq
        have := h1 q hq
        simp; omega
      rw [lb_ge hp]
      by_cases e : p.f0 = k
      · rw [if_pos (by simp [isIn, e]), List.eraseIdx_cons_zero]
        conv => lhs; rw [← hall]
        simp [del, List.filter_cons, e]
      · have e' : (p.f0 == k) = false := by simpa using e
        have : isIn (p :: l) k = false := by simp only [isIn, List.any_cons, e', Bool.false_or]; exact hno
        rw [if_neg (by rw [this]; decide)]
        have : del (p :: l) k = p :: del l k := by simp [del, List.filter_cons, e']
        rw [this, hall]
theorem del_take {l : List S52} (hs : Srt l) (k : Int) : (del l k).take (lb l k) = l.filter (fun p => decide (p.f0 < k)) ∧ (del l k).drop (lb l k) = l.filter (fun p => decide (k < p.f0)) := by
  induction l with
  | nil => exact ⟨rfl, rfl⟩
  | cons p l ih =>
    obtain ⟨h1, h2⟩ := srt_cons.1 hs
    obtain ⟨i1, i2⟩ := ih h2
    by_cases hp : p.f0 < k
    · have e : (p.f0 == k) = false := by simp; omega
      have e2 : del (p :: l) k = p :: del l k := by simp [del, List.filter_cons, e]
      have hn : ¬ k < p.f0 := by omega
      rw [e2, lb_lt hp]
      simp only [List.take_succ_cons, List.drop_succ_cons, List.filter_cons, hp, hn, decide_true, decide_false, if_true, i1, i2]
      simp
    · rw [lb_ge hp]
      have f1 : (p :: l).filter (fun p => decide (p.f0 < k)) = [] := by
        rw [List.filter_eq_nil_iff]
        intro q hq
        rcases List.mem_cons.1 hq with rfl | hq
        · simpa using hp
        · have := h1 q hq; simp; omega
      refine ⟨by rw [f1]; rfl, ?_⟩
      rw [List.drop_zero, del]
      apply List.filter_congr
      intro q hq
      have : k ≤ q.f0 := by
        rcases List.mem_cons.1 hq with rfl | hq
        · omega
        · have := h1 q hq; omega
      by_cases e : q.f0 = k
      · simp [e]
      · have : k < q.f0 := by omega
        simp [e, this]
theorem without_f (l : List S52) (k : Int) (hs : Srt l) (hl : l.length ≤ 1000) (f : Nat) (hf : 1000 < f) : seq_Map_without.f f l k = some (del l k, ((lb l k : Nat) : Int)) := by
  unfold seq_Map_without.f
  rw [place l k hs hl f hf, Option.bind_some, if_pos (by omega), if_pos (by omega), ← del_eq hs k]
  by_cases e : isIn l k = true
  · have h := e
    rw [isIn_spec hs] at h
    have hlt : lb l k < l.length := by
      by_cases hh : lb l k < l.length
      · exact hh
      · rw [dif_neg hh] at h; cases h
    simp only [if_pos e]
    rw [if_pos (by omega), Int.toNat_natCast]
  · simp only [if_neg e]
theorem del_len (l : List S52) (k : Int) : (del l k).length ≤ l.length := List.length_filter_le _ _
theorem lb_del {l : List S52} (hs : Srt l) (k : Int) : lb l k ≤ (del l k).length := by
  induction l with
  | nil => exact Nat.le_refl _
  | cons p l ih =>
    obtain ⟨h1, h2⟩ := srt_cons.1 hs
    by_cases hp : p.f0 < k
    · have e : (p.f0 == k) = false := by simp; omega
      have e2 : del (p :: l) k = p :: del l k := by simp [del, List.filter_cons, e]
      rw [e2, lb_lt hp, List.length_cons]
      have := ih h2
      omega
    · rw [lb_ge hp]; exact Nat.zero_le _
theorem with_f (l : List S52) (k v : Int) (hs : Srt l) (hl : l.length ≤ 1000) (f : Nat) (hf : 1000 < f) : seq_Map_with.f f l k v = some (ins l k v) := by
  unfold seq_Map_with.f
  have h1 := del_len l k
  have h2 := lb_del hs k
  obtain ⟨h3, h4⟩ := del_take hs k
  rw [without_f l k hs hl f hf, Option.bind_some, if_pos (by omega), if_pos (by show ((lb l k : Nat) : Int) ≤ ((del l k).length : Int); omega), if_pos (by show (del l k).length ≤ 1000000; omega)]
  show some ((del l k).take (((lb l k : Nat) : Int)).toNat ++ [⟨k, v⟩] ++ (del l k).drop (((lb l k : Nat) : Int)).toNat) = _
  rw [Int.toNat_natCast, h3, h4]; rfl
theorem srt_filter {l : List S52} (hs : Srt l) (p : S52 → Bool) : Srt (l.filter p) := List.Pairwise.filter p hs
theorem srt_del {l : List S52} (hs : Srt l) (k : Int) : Srt (del l k) := srt_filter hs _
theorem srt_ins {l : List S52} (hs : Srt l) (k v : Int) : Srt (ins l k v) := by
  unfold ins Srt
  rw [List.append_assoc, List.pairwise_append]
  refine ⟨srt_filter hs _, ?_, ?_⟩
  · rw [List.singleton_append, List.pairwise_cons]
    refine ⟨fun q hq => ?_, srt_filter hs _⟩
    have := (List.mem_filter.1 hq).2
    simpa using this
  · intro a ha b hb
    have h1 : a.f0 < k := by simpa using (List.mem_filter.1 ha).2
    rw [List.singleton_append] at hb
    rcases List.mem_cons.1 hb with rfl | hb
    · exact h1
    · have h2 : k < b.f0 := by simpa using (List.mem_filter.1 hb).2
      omega
theorem ins_len (l : List S52) (k v : Int) : (ins l k v).length ≤ l.length + 1 := by
  have key : (l.filter (fun p => decide (p.f0 < k))).length + (l.filter (fun p => decide (k < p.f0))).length ≤ l.length := by
    induction l with
    | nil => exact Nat.le_refl _
    | cons p l ih =>
      simp only [List.filter_cons]
      by_cases h1 : p.f0 < k
      · have h2 : ¬ k < p.f0 := by omega
        simp only [h1, h2, decide_true, decide_false, if_true, List.length_cons]
        simp only [Bool.false_eq_true, if_false]
        omega
      · simp only [h1, decide_false, Bool.false_eq_true, if_false]
        split <;> simp only [List.length_cons] <;> omega
  unfold ins
  simp only [List.length_append, List.length_singleton]
  omega
end Go.Eng
