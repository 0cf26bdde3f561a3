/-
Plain lemmas on the printed functions of chapter 06: what their loops come to.
-/
import Derived.Test.YtpppcicbkdafeabGCoverx0
import Derived.Test.YtpppcicbkdafeabGCoverx3
import Derived.Test.YtpppcicbkdafeabGCoverx4
import Derived.Test.YtpppcicbkdafeabGCoverx5
import Derived.Test.YtpppcicbkdafeabGCoverx6
namespace Go.Proofs.Ytpppcicbkdafeab.Plain06
open Go.RowKit Go.Proofs.Ytpppcicbkdafeab.GCover Go.Proofs.YtpppcicbkdafeabW.PrintWords Go.Proofs.YtpppcicbkdafeabW.PrintLast Go.Proofs.YtpppcicbkdafeabW.PrintMore

theorem w64 {i : Int} (h0 : 0 ≤ i) (h1 : i < 1000000) : wrap64 (i + 1) = i + 1 := by unfold wrap64; omega
theorem drop_get {α : Type} (l : List α) (z : α) (i : Int) (h0 : 0 ≤ i) (h1 : i < l.length) : l.drop i.toNat = l.getD i.toNat z :: l.drop (i + 1).toNat := by
  have h : i.toNat < l.length := by omega
  rw [List.drop_eq_getElem_cons h, List.getD_eq_getElem?_getD, List.getElem?_eq_getElem h, show (i + 1).toNat = i.toNat + 1 by omega]; rfl
theorem drop_end {α : Type} (l : List α) (i : Int) (h : i = l.length) : l.drop i.toNat = [] := by
  rw [h]; simp

theorem refCovered_l (l : List Int) (n b r : Int) (hl : l.length ≤ 1000) (d : Nat) : ∀ (k : Nat) (i : Int), 0 ≤ i → i ≤ l.length → (l.length : Int) - i = d → d < k →
    stepstoneref06_Covered.l0 k l i n b r = some ((l.drop i.toNat).any (covB b r)) := by
  induction d with
  | zero =>
    intro k i h0 h1 hd hk
    obtain ⟨k, rfl⟩ : ∃ m, k = m + 1 := ⟨k - 1, by omega⟩
    simp only [stepstoneref06_Covered.l0]; rw [if_neg (by omega), drop_end l i (by omega)]; rfl
  | succ d ih =>
    intro k i h0 h1 hd hk
    obtain ⟨k, rfl⟩ : ∃ m, k = m + 1 := ⟨k - 1, by omega⟩
    have ih' := ih k (i + 1) (by omega) (by omega) (by omega) (by omega)
    have hr : l.getD i.toNat 0 = rd l i := rfl
    simp only [stepstoneref06_Covered.l0]
    rw [if_pos (by omega), if_pos h0, w64 h0 (by omega), ih', drop_get l 0 i h0 (by omega), hr, List.any_cons]
    generalize rd l i = x
    unfold covB
    by_cases e : x = 0
    · rw [if_pos e]; simp [e]
    · rw [if_neg e]
      by_cases e2 : b ≤ x
      · rw [if_pos e2]
        by_cases e3 : x ≤ r
        · rw [if_pos e3]; simp [e, e2, e3]
        · rw [if_neg e3]; simp [e2, e3]
      · rw [if_neg e2]; simp [e2]
theorem refCovered (l : List Int) (n b r : Int) (hl : l.length ≤ 1000) (k : Nat) (hk : l.length < k) : stepstoneref06_Covered.f k n b r l = some (l.any (covB b r)) := by
  have := refCovered_l l n b r hl l.length k 0 (by omega) (by omega) (by omega) hk
  unfold stepstoneref06_Covered.f
  simpa using this
theorem covered (l : List Int) (n b r : Int) (hl : l.length ≤ 1000) : cover_Covered.f n b r l = some (l.any (covB b r)) := by
  unfold cover_Covered.f; rw [if_pos (by omega)]
theorem alive : stepstonelaw06_alive.f = some true := rfl

/-- An entry, as the program has it; as the document has it. -/
def new (x : S24) : S28 := ⟨x.f0, x.f1, x.f2⟩
def old (x : S28) : S24 := ⟨x.f0, x.f1, x.f2⟩
theorem old_new (x : S24) : old (new x) = x := rfl
theorem olds_news (l : List S24) : (l.map new).map old = l := by rw [List.map_map]; exact List.map_id'' (fun _ => rfl) l

theorem news_l (l : List S24) (hl : l.length ≤ 1000) (d : Nat) : ∀ (k : Nat) (acc : List S28) (i : Int), acc.length + (l.length - i.toNat) ≤ 1000 → 0 ≤ i → i ≤ l.length → (l.length : Int) - i = d → d < k →
    stepstonelaw06_News.l0 k acc l (l.length : Int) i = some (acc ++ (l.drop i.toNat).map new) := by
  induction d with
  | zero =>
    intro k acc i ha h0 h1 hd hk
    obtain ⟨k, rfl⟩ : ∃ m, k = m + 1 := ⟨k - 1, by omega⟩
    simp only [stepstonelaw06_News.l0]; rw [if_neg (by omega), drop_end l i (by omega)]; simp
  | succ d ih =>
    intro k acc i ha h0 h1 hd hk
    obtain ⟨k, rfl⟩ : ∃ m, k = m + 1 := ⟨k - 1, by omega⟩
    simp only [stepstonelaw06_News.l0]
    rw [if_pos (by omega), if_pos h0, if_pos (by omega), if_pos (by omega), w64 h0 (by omega), ih k _ (i + 1) (by rw [List.length_append, List.length_singleton]; omega) (by omega) (by omega) (by omega) (by omega), drop_get l z24 i h0 (by omega)]
    simp only [List.map_cons, List.append_assoc, List.singleton_append]; rfl
theorem news (l : List S24) (hl : l.length ≤ 1000) (k : Nat) (hk : l.length < k) : stepstonelaw06_News.f k l = some (l.map new) := by
  have := news_l l hl l.length k [] 0 (by simp; omega) (by omega) (by omega) (by omega) hk
  unfold stepstonelaw06_News.f
  simpa using this
theorem olds_l (l : List S28) (hl : l.length ≤ 1000) (d : Nat) : ∀ (k : Nat) (acc : List S24) (i : Int), acc.length + (l.length - i.toNat) ≤ 1000 → 0 ≤ i → i ≤ l.length → (l.length : Int) - i = d → d < k →
    stepstonelaw06_Olds.l0 k acc l (l.length : Int) i = some (acc ++ (l.drop i.toNat).map old) := by
  induction d with
  | zero =>
    intro k acc i ha h0 h1 hd hk
    obtain ⟨k, rfl⟩ : ∃ m, k = m + 1 := ⟨k - 1, by omega⟩
    simp only [stepstonelaw06_Olds.l0]; rw [if_neg (by omega), drop_end l i (by omega)]; simp
  | succ d ih =>
    intro k acc i ha h0 h1 hd hk
    obtain ⟨k, rfl⟩ : ∃ m, k = m + 1 := ⟨k - 1, by omega⟩
    simp only [stepstonelaw06_Olds.l0]
    rw [if_pos (by omega), if_pos h0, if_pos (by omega), if_pos (by omega), w64 h0 (by omega), ih k _ (i + 1) (by rw [List.length_append, List.length_singleton]; omega) (by omega) (by omega) (by omega) (by omega), drop_get l z28 i h0 (by omega)]
    simp only [List.map_cons, List.append_assoc, List.singleton_append]; rfl
theorem olds (l : List S28) (hl : l.length ≤ 1000) (k : Nat) (hk : l.length < k) : stepstonelaw06_Olds.f k l = some (l.map old) := by
  have := olds_l l hl l.length k [] 0 (by simp; omega) (by omega) (by omega) (by omega) hk
  unfold stepstonelaw06_Olds.f
  simpa using this

/-- Is an entry covered by one of some eras? -/
def cov (es : List Int) (x : S28) : Bool := es.any (covB x.f1 x.f2)
theorem apart_l (l : List S28) (es : List Int) (hl : l.length ≤ 1000) (he : es.length ≤ 1000) (d : Nat) : ∀ (k : Nat) (a b : List S28) (i : Int), a.length + b.length + (l.length - i.toNat) ≤ 1000 → 0 ≤ i → i ≤ l.length → (l.length : Int) - i = d → d < k →
    cover_Entry.l0 k es a b l (l.length : Int) i = some (a ++ (l.drop i.toNat).filter (cov es), b ++ (l.drop i.toNat).filter (fun x => !cov es x)) := by
  induction d with
  | zero =>
    intro k a b i ha h0 h1 hd hk
    obtain ⟨k, rfl⟩ : ∃ m, k = m + 1 := ⟨k - 1, by omega⟩
    simp only [cover_Entry.l0]; rw [if_neg (by omega), drop_end l i (by omega)]; simp
  | succ d ih =>
    intro k a b i ha h0 h1 hd hk
    obtain ⟨k, rfl⟩ : ∃ m, k = m + 1 := ⟨k - 1, by omega⟩
    simp only [cover_Entry.l0]
    rw [if_pos (by omega), if_pos h0, if_pos (by omega), covered es _ _ _ he, Option.bind_some, w64 h0 (by omega), drop_get l z28 i h0 (by omega)]
    have hx : (es.any (covB (rd_T28 l i).f1 (rd_T28 l i).f2)) = cov es (l.getD i.toNat z28) := rfl
    rw [hx]
    have hr : (⟨(rd_T28 l i).f0, (rd_T28 l i).f1, (rd_T28 l i).f2⟩ : S28) = l.getD i.toNat z28 := rfl
    rw [hr]
    generalize l.getD i.toNat z28 = x
    cases hc : cov es x with
    | true =>
      rw [if_pos rfl, if_pos (by omega), ih k _ _ (i + 1) (by rw [List.length_append, List.length_singleton]; omega) (by omega) (by omega) (by omega) (by omega)]
      simp [hc]
    | false =>
      rw [if_neg Bool.false_ne_true, if_pos (by omega), ih k _ _ (i + 1) (by rw [List.length_append, List.length_singleton]; omega) (by omega) (by omega) (by omega) (by omega)]
      simp [hc]
theorem split (l : List S28) (es : List Int) (hl : l.length ≤ 1000) (he : es.length ≤ 1000) (k : Nat) (hk : l.length < k) : cover_Split.f k l es = some (l.filter (cov es), l.filter (fun x => !cov es x)) := by
  unfold cover_Split.f
  rw [if_pos (by omega)]
  have := apart_l l es hl he l.length k [] [] 0 (by simp; omega) (by omega) (by omega) (by omega) hk
  unfold cover_Entry.f
  simpa using this
theorem refSplit_l (l : List S24) (es : List Int) (want : Bool) (hl : l.length ≤ 1000) (he : es.length ≤ 1000) (d : Nat) : ∀ (k : Nat) (a : List S24) (i : Int), a.length + (l.length - i.toNat) ≤ 1000 → 0 ≤ i → i ≤ l.length → (l.length : Int) - i = d → d + es.length < k →
    stepstoneref06_Split.l0 k l es want a i = some (a ++ (l.drop i.toNat).filter (fun x => cov es (new x) == want)) := by
  induction d with
  | zero =>
    intro k a i ha h0 h1 hd hk
    obtain ⟨k, rfl⟩ : ∃ m, k = m + 1 := ⟨k - 1, by omega⟩
    simp only [stepstoneref06_Split.l0]; rw [if_neg (by omega), drop_end l i (by omega)]; simp
  | succ d ih =>
    intro k a i ha h0 h1 hd hk
    obtain ⟨k, rfl⟩ : ∃ m, k = m + 1 := ⟨k - 1, by omega⟩
    simp only [stepstoneref06_Split.l0]
    rw [if_pos (by omega), if_pos h0, refCovered es _ _ _ he k (by omega), Option.bind_some, w64 h0 (by omega), drop_get l z24 i h0 (by omega)]
    have hx : (es.any (covB (rd_T24 l i).f1 (rd_T24 l i).f2)) = cov es (new (l.getD i.toNat z24)) := rfl
    rw [hx]
    have hr : (⟨(rd_T24 l i).f0, (rd_T24 l i).f1, (rd_T24 l i).f2⟩ : S24) = l.getD i.toNat z24 := rfl
    rw [hr]
    generalize l.getD i.toNat z24 = x
    cases hc : (cov es (new x) == want) with
    | true =>
      rw [if_pos rfl, if_pos (by omega), ih k _ (i + 1) (by rw [List.length_append, List.length_singleton]; omega) (by omega) (by omega) (by omega) (by omega)]
      simp [hc]
    | false =>
      rw [if_neg Bool.false_ne_true, ih k _ (i + 1) (by omega) (by omega) (by omega) (by omega) (by omega)]
      simp [hc]
theorem refSplit (l : List S24) (es : List Int) (want : Bool) (hl : l.length ≤ 1000) (he : es.length ≤ 1000) (k : Nat) (hk : l.length + es.length < k) : stepstoneref06_Split.f k l es want = some (l.filter (fun x => cov es (new x) == want)) := by
  have := refSplit_l l es want hl he l.length k [] 0 (by simp; omega) (by omega) (by omega) (by omega) hk
  unfold stepstoneref06_Split.f
  simpa using this
theorem same_l (l : List S24) (hl : l.length ≤ 1000) (d : Nat) : ∀ (k : Nat) (i : Int), 0 ≤ i → i ≤ l.length → (l.length : Int) - i = d → d < k → stepstoneref06_Same.l0 k l l i = some true := by
  induction d with
  | zero =>
    intro k i h0 h1 hd hk
    obtain ⟨k, rfl⟩ : ∃ m, k = m + 1 := ⟨k - 1, by omega⟩
    simp only [stepstoneref06_Same.l0]; rw [if_neg (by omega)]
  | succ d ih =>
    intro k i h0 h1 hd hk
    obtain ⟨k, rfl⟩ : ∃ m, k = m + 1 := ⟨k - 1, by omega⟩
    simp only [stepstoneref06_Same.l0, beq_self_eq_true, Bool.not_true, Bool.or_self, Bool.false_eq_true, if_false]
    rw [if_pos (by omega), if_pos h0, if_pos (by omega), w64 h0 (by omega), ih k (i + 1) (by omega) (by omega) (by omega) (by omega)]
theorem same (l : List S24) (hl : l.length ≤ 1000) (k : Nat) (hk : l.length < k) : stepstoneref06_Same.f k l l = some true := by
  unfold stepstoneref06_Same.f
  rw [if_pos rfl]
  exact same_l l hl l.length k 0 (by omega) (by omega) (by omega) hk
end Go.Proofs.Ytpppcicbkdafeab.Plain06
