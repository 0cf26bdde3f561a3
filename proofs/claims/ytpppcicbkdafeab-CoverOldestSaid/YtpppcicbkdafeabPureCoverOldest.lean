/-
The least birth of any entries, or that there is none, is what the document says; eras below it cover none of them. No condition.
-/
import Derived.Test.YtpppcicbkdafeabQCoverOldest
import Derived.Test.YtpppcicbkdafeabPlain06
namespace Go.Proofs.Ytpppcicbkdafeab.Pure
open Go.RowKit Go.Proofs.Ytpppcicbkdafeab.GCover Go.Proofs.Ytpppcicbkdafeab.Plain06 Go.Proofs.YtpppcicbkdafeabW.PrintWords Go.Proofs.YtpppcicbkdafeabW.PrintLast Go.Proofs.YtpppcicbkdafeabW.PrintMore

theorem mn_lt (a b : Int) : mn a b = if b < a then b else a := rfl
theorem oldest_l (l : List S24) (hl : l.length ≤ 1000) (d : Nat) : ∀ (k k' : Nat) (m : Int) (i : Int), 0 ≤ i → i ≤ l.length → (l.length : Int) - i = d → d < k → d < k' →
    ∃ r, cover_Oldest.l0 k m (l.map new) ((l.map new).length : Int) i = some (r, true) ∧ stepstoneref06_Oldest.l0 k' l m i = some (r, true) ∧ r ≤ m ∧ ∀ x ∈ l.drop i.toNat, r ≤ x.f1 := by
  induction d with
  | zero =>
    intro k k' m i h0 h1 hd hk hk'
    obtain ⟨k, rfl⟩ : ∃ m, k = m + 1 := ⟨k - 1, by omega⟩
    obtain ⟨k', rfl⟩ : ∃ m, k' = m + 1 := ⟨k' - 1, by omega⟩
    refine ⟨m, ?_, ?_, by omega, by rw [drop_end l i (by omega)]; simp⟩
    · simp only [cover_Oldest.l0, List.length_map]; rw [if_neg (by omega)]
    · simp only [stepstoneref06_Oldest.l0]; rw [if_neg (by omega)]
  | succ d ih =>
    intro k k' m i h0 h1 hd hk hk'
    obtain ⟨k, rfl⟩ : ∃ m, k = m + 1 := ⟨k - 1, by omega⟩
    obtain ⟨k', rfl⟩ : ∃ m, k' = m + 1 := ⟨k' - 1, by omega⟩
    have hg : (rd_T28 (l.map new) i).f1 = (rd_T24 l i).f1 := by
      have hlt : i.toNat < l.length := by omega
      unfold rd_T28 rd_T24
      rw [List.getD_eq_getElem?_getD, List.getD_eq_getElem?_getD, List.getElem?_map, List.getElem?_eq_getElem hlt]; rfl
    have hd' : l.drop i.toNat = rd_T24 l i :: l.drop (i + 1).toNat := drop_get l z24 i h0 (by omega)
    obtain ⟨r, e1, e2, e3, e4⟩ := ih k k' (if (rd_T24 l i).f1 < m then (rd_T24 l i).f1 else m) (i + 1) (by omega) (by omega) (by omega) (by omega) (by omega)
    refine ⟨r, ?_, ?_, ?_, ?_⟩
    · simp only [cover_Oldest.l0]
      rw [if_pos (by rw [List.length_map]; omega), if_pos h0, if_pos (by rw [List.length_map]; omega), hg, mn_lt, w64 h0 (by omega), e1]
    · simp only [stepstoneref06_Oldest.l0]
      rw [if_pos (by omega), if_pos h0, w64 h0 (by omega)]
      by_cases c : (rd_T24 l i).f1 < m
      · rw [if_pos c] at e2 ⊢; exact e2
      · rw [if_neg c] at e2 ⊢; exact e2
    · by_cases c : (rd_T24 l i).f1 < m
      · rw [if_pos c] at e3; omega
      · rw [if_neg c] at e3; omega
    · intro x hx
      rw [hd'] at hx
      rcases List.mem_cons.1 hx with rfl | hx
      · by_cases c : (rd_T24 l i).f1 < m
        · rw [if_pos c] at e3; omega
        · rw [if_neg c] at e3; omega
      · exact e4 x hx
theorem oldest (l : List S24) (hl : l.length ≤ 1000) :
    ∃ r is, cover_Oldest.f 2000 (l.map new) = some (r, is) ∧ stepstoneref06_Oldest.f 2000 l = some (r, is) ∧ (is = true → ∀ x ∈ l, r ≤ x.f1) ∧ (is = false → l = []) := by
  cases l with
  | nil => exact ⟨0, false, rfl, rfl, by simp, by simp⟩
  | cons x xs =>
    have hlen : (x :: xs).length = xs.length + 1 := rfl
    obtain ⟨r, e1, _, e3, e4⟩ := oldest_l (x :: xs) hl (x :: xs).length 2000 2000 x.f1 0 (by omega) (by omega) (by omega) (by omega) (by omega)
    obtain ⟨r', e1', e2', e3', e4'⟩ := oldest_l (x :: xs) hl xs.length 2000 2000 x.f1 1 (by omega) (by omega) (by omega) (by omega) (by omega)
    have hs0 : ∀ k, cover_Oldest.l0 (k + 1) x.f1 ((x :: xs).map new) (((x :: xs).map new).length : Int) 0 = cover_Oldest.l0 k x.f1 ((x :: xs).map new) (((x :: xs).map new).length : Int) 1 := by
      intro k
      simp only [cover_Oldest.l0]
      rw [if_pos (by rw [List.length_map]; omega), if_pos (by omega), if_pos (by rw [List.length_map]; omega), w64 (by omega) (by omega), mn_lt]
      have : (rd_T28 ((x :: xs).map new) 0).f1 = x.f1 := rfl
      rw [this, if_neg (by omega)]; rfl
    have hs := hs0 1999
    obtain ⟨r2, f1, f2, f3, f4⟩ := oldest_l (x :: xs) hl xs.length 1999 2000 x.f1 1 (by omega) (by omega) (by omega) (by omega) (by omega)
    have hr : r = r2 := by
      have h : some (r, true) = some (r2, true) := e1.symm.trans (hs.trans f1)
      exact (Prod.mk.inj (Option.some.inj h)).1
    subst hr
    refine ⟨r, true, ?_, ?_, fun _ => ?_, by simp⟩
    · unfold cover_Oldest.f
      rw [if_neg (by rw [List.length_map]; omega), if_pos (by rw [List.length_map]; omega)]; exact e1
    · unfold stepstoneref06_Oldest.f
      rw [if_neg (by omega), if_pos (by omega)]; exact f2
    · simpa using e4
theorem CoverOldest : QCoverOldest.Pure := by
  intro l below wl wb
  refine ⟨2000, ?_⟩
  unfold stepstonelaw06_CoverOldest.f
  by_cases c : (l.length : Int) > 100
  · rw [if_pos c, Plain06.alive]; rfl
  rw [if_neg c]
  have hj : ∀ k below r is, stepstonelaw06_CoverOldest.j0 (k + 1) l below r is false = (stepstonelaw06_News.f k l).bind fun t243 => ((cover_Split.f k t243 (([below] : List Int))).bind fun bt249 => ((stepstonelaw06_alive.f).bind fun t255 => (if t255 = true then (if is = true then (if below ≥ r then (some true) else (if (bt249.1.length : Int) = 0 then (some ((bt249.2.length : Int) == (l.length : Int))) else (some false))) else (if (bt249.1.length : Int) = 0 then (some ((bt249.2.length : Int) == (l.length : Int))) else (some false))) else (some false)))) := by
    intro k below r is; simp only [stepstonelaw06_CoverOldest.j0]; rw [if_neg Bool.false_ne_true]
  obtain ⟨r, is, e1, e2, e3, e4⟩ := oldest l (by omega)
  rw [news l (by omega) 2000 (by omega), Option.bind_some, e1, Option.bind_some, e2, Option.bind_some, if_pos rfl, bne_self_eq_false]
  rw [show (2000 : Nat) = 1999 + 1 from rfl, hj 1999 below r is, news l (by omega) 1999 (by omega), Option.bind_some, split _ [below] (by rw [List.length_map]; omega) (by simp) 1999 (by rw [List.length_map]; omega), Option.bind_some, Plain06.alive, Option.bind_some, if_pos rfl]
  have key : (is = true → below < r) → (l.map new).filter (cov [below]) = [] ∧ ((l.map new).filter (fun x => !cov [below] x)) = l.map new := by
    intro h
    have hn : ∀ x ∈ l.map new, cov [below] x = false := by
      intro x hx
      obtain ⟨y, hy, rfl⟩ := List.mem_map.1 hx
      cases his : is with
      | false => rw [e4 his] at hy; simp at hy
      | true =>
        have h1 := e3 his y hy
        have h2 := h his
        show ([below].any (covB y.f1 y.f2)) = false
        rw [List.any_eq_false]
        intro z hz hc
        rw [List.mem_singleton] at hz
        subst hz
        have := covB_true hc
        omega
    exact ⟨List.filter_eq_nil_iff.2 (fun x hx => by rw [hn x hx]; exact Bool.false_ne_true), List.filter_eq_self.2 (fun x hx => by rw [hn x hx]; rfl)⟩
  by_cases h1 : is = true
  · rw [if_pos h1]
    by_cases h2 : below ≥ r
    · rw [if_pos h2]
    · rw [if_neg h2, (key (fun _ => by omega)).1, (key (fun _ => by omega)).2]; simp
  · rw [if_neg h1, (key (fun h => absurd h h1)).1, (key (fun h => absurd h h1)).2]; simp
end Go.Proofs.Ytpppcicbkdafeab.Pure
