/-
Plain lemmas on the printed functions of chapter 06: what their loops come to.
-/
import Derived.Test.YtpppcicbkdafeabGOncex0
import Derived.Test.YtpppcicbkdafeabGOncex3
import Derived.Test.YtpppcicbkdafeabGOncex4
import Derived.Test.YtpppcicbkdafeabGOncex5
namespace Go.Proofs.Ytpppcicbkdafeab.Plain06Once
open Go.RowKit Go.Proofs.Ytpppcicbkdafeab.GOnce Go.Proofs.YtpppcicbkdafeabW.PrintWords Go.Proofs.YtpppcicbkdafeabW.PrintLast Go.Proofs.YtpppcicbkdafeabW.PrintMore

theorem w64 {i : Int} (h0 : 0 ≤ i) (h1 : i < 1000000) : wrap64 (i + 1) = i + 1 := by unfold wrap64; omega
theorem drop_get {α : Type} (l : List α) (z : α) (i : Int) (h0 : 0 ≤ i) (h1 : i < l.length) : l.drop i.toNat = l.getD i.toNat z :: l.drop (i + 1).toNat := by
  have h : i.toNat < l.length := by omega
  rw [List.drop_eq_getElem_cons h, List.getD_eq_getElem?_getD, List.getElem?_eq_getElem h, show (i + 1).toNat = i.toNat + 1 by omega]; rfl
theorem drop_end {α : Type} (l : List α) (i : Int) (h : i = l.length) : l.drop i.toNat = [] := by
  rw [h]; simp

theorem covered (l : List Int) (n b r : Int) (hl : l.length ≤ 1000) : cover_Covered.f n b r l = some (l.any (covB b r)) := by
  unfold cover_Covered.f; rw [if_pos (by omega)]
theorem alive : stepstonelaw06_alive.f = some true := rfl

/-- An entry, as the program has it; as the document has it. -/
def new (x : S24) : S28 := ⟨x.f0, x.f1, x.f2⟩
def old (x : S28) : S24 := ⟨x.f0, x.f1, x.f2⟩
theorem old_new (x : S24) : old (new x) = x := rfl
theorem news_l (l : List S24) (hl : l.length ≤ 1000) (d : Nat) : ∀ (k : Nat) (acc : List S28) (i : Int), acc.length + (l.length - i.toNat) ≤ 1000 → 0 ≤ i → i ≤ l.length → (l.length : Int) - i = d → d < k →
    stepstonelaw06_News.l0 k acc l (l.length : Int) i = some (acc ++ (l.drop i.toNat).map new) := by
  induction d with
  | zero =>
    intro k acc i ha h0 h1 hd hk
    obtain ⟨k, rfl⟩ : ∃ m, k = m + 1 := ⟨k - 1, by omega⟩
    simp only [stepstonelaw06_News.l0]; rw [if_neg (by omega), drop_end l i (by omega)]; simp
  | succ d ih =>
    intro k acc i ha h0 h1 hd hk
    obtain ⟨k, rfl⟩ : ∃ m, k = m + 1 := ⟨k - 1, by omega⟩
    simp only [stepstonelaw06_News.l0]
    rw [if_pos (by omega), if_pos h0, if_pos (by omega), if_pos (by omega), w64 h0 (by omega), ih k _ (i + 1) (by rw [List.length_append, List.length_singleton]; omega) (by omega) (by omega) (by omega) (by omega), drop_get l z24 i h0 (by omega)]
    simp only [List.map_cons, List.append_assoc, List.singleton_append]; rfl
theorem news (l : List S24) (hl : l.length ≤ 1000) (k : Nat) (hk : l.length < k) : stepstonelaw06_News.f k l = some (l.map new) := by
  have := news_l l hl l.length k [] 0 (by simp; omega) (by omega) (by omega) (by omega) hk
  unfold stepstonelaw06_News.f
  simpa using this
/-- Is an entry covered by one of some eras? -/
def cov (es : List Int) (x : S28) : Bool := es.any (covB x.f1 x.f2)
theorem apart_l (l : List S28) (es : List Int) (hl : l.length ≤ 1000) (he : es.length ≤ 1000) (d : Nat) : ∀ (k : Nat) (a b : List S28) (i : Int), a.length + b.length + (l.length - i.toNat) ≤ 1000 → 0 ≤ i → i ≤ l.length → (l.length : Int) - i = d → d < k →
    cover_Entry.l0 k es a b l (l.length : Int) i = some (a ++ (l.drop i.toNat).filter (cov es), b ++ (l.drop i.toNat).filter (fun x => !cov es x)) := by
  induction d with
  | zero =>
    intro k a b i ha h0 h1 hd hk
    obtain ⟨k, rfl⟩ : ∃ m, k = m + 1 := ⟨k - 1, by omega⟩
    simp only [cover_Entry.l0]; rw [if_neg (by omega), drop_end l i (by omega)]; simp
  | succ d ih =>
    intro k a b i ha h0 h1 hd hk
    obtain ⟨k, rfl⟩ : ∃ m, k = m + 1 := ⟨k - 1, by omega⟩
    simp only [cover_Entry.l0]
    rw [if_pos (by omega), if_pos h0, if_pos (by omega), covered es _ _ _ he, Option.bind_some, w64 h0 (by omega), drop_get l z28 i h0 (by omega)]
    have hx : (es.any (covB (rd_T28 l i).f1 (rd_T28 l i).f2)) = cov es (l.getD i.toNat z28) := rfl
    rw [hx]
    have hr : (⟨(rd_T28 l i).f0, (rd_T28 l i).f1, (rd_T28 l i).f2⟩ : S28) = l.getD i.toNat z28 := rfl
    rw [hr]
    generalize l.getD i.toNat z28 = x
    cases hc : cov es x with
    | true =>
      rw [if_pos rfl, if_pos (by omega), ih k _ _ (i + 1) (by rw [List.length_append, List.length_singleton]; omega) (by omega) (by omega) (by omega) (by omega)]
      simp [hc]
    | false =>
      rw [if_neg Bool.false_ne_true, if_pos (by omega), ih k _ _ (i + 1) (by rw [List.length_append, List.length_singleton]; omega) (by omega) (by omega) (by omega) (by omega)]
      simp [hc]
theorem split (l : List S28) (es : List Int) (hl : l.length ≤ 1000) (he : es.length ≤ 1000) (k : Nat) (hk : l.length < k) : cover_Split.f k l es = some (l.filter (cov es), l.filter (fun x => !cov es x)) := by
  unfold cover_Split.f
  rw [if_pos (by omega)]
  have := apart_l l es hl he l.length k [] [] 0 (by simp; omega) (by omega) (by omega) (by omega) hk
  unfold cover_Entry.f
  simpa using this
end Go.Proofs.Ytpppcicbkdafeab.Plain06Once
