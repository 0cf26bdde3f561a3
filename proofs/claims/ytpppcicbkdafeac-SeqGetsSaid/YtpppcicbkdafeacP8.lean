/- Own text, written by an own program: P8. -/
import Derived.Test.YtpppcicbkdafeacP7
namespace Go.Eng
open Go.Proofs Go.RowKit Go.Proofs.YtpppcicbkdafeacW.PrintWords Go.Proofs.Ytpppcicbkdafeac.GSeq
set_option linter.unusedVariables false
set_option linter.unusedSimpArgs false
deriving instance DecidableEq for S52
deriving instance DecidableEq for S62
theorem drop_get {α : Type} (l : List α) (z : α) (i : Int) (h0 : 0 ≤ i) (h1 : i < l.length) : l.drop i.toNat = l.getD i.toNat z :: l.drop (i + 1).toNat := by
  have h : i.toNat < l.length := by omega
  rw [List.drop_eq_getElem_cons h, List.getD_eq_getElem?_getD, List.getElem?_eq_getElem h, show (i + 1).toNat = i.toNat + 1 by omega]; rfl
theorem drop_end {α : Type} (l : List α) (i : Int) (h : i = l.length) : l.drop i.toNat = [] := by
  rw [h]; simp
theorem old_new (x : S62) : old (new x) = x := rfl
theorem new_old (x : S52) : new (old x) = x := rfl
theorem olds_news (l : List S62) : (l.map new).map old = l := by rw [List.map_map]; exact List.map_id'' (fun _ => rfl) l
theorem news_olds (l : List S52) : (l.map old).map new = l := by rw [List.map_map]; exact List.map_id'' (fun _ => rfl) l
theorem news_l (l : List S62) (hl : l.length ≤ 1000) (d : Nat) : ∀ (k : Nat) (acc : List S52) (i : Int), acc.length + (l.length - i.toNat) ≤ 1000 → 0 ≤ i → i ≤ l.length → (l.length : Int) - i = d → d < k →
    stepstonelaw07_News.l0 k acc l (l.length : Int) i = some (acc ++ (l.drop i.toNat).map new) := by
  induction d with
  | zero =>
    intro k acc i ha h0 h1 hd hk
    obtain ⟨k, rfl⟩ : ∃ m, k = m + 1 := ⟨k - 1, by omega⟩
    simp only [stepstonelaw07_News.l0]; rw [if_neg (by omega), drop_end l i (by omega)]; simp
  | succ d ih =>
    intro k acc i ha h0 h1 hd hk
    obtain ⟨k, rfl⟩ : ∃ m, k = m + 1 := ⟨k - 1, by omega⟩
    simp only [stepstonelaw07_News.l0]
    rw [if_pos (by omega), if_pos h0, if_pos (by omega), if_pos (by omega), w64 h0 (by omega), ih k _ (i + 1) (by rw [List.length_append, List.length_singleton]; omega) (by omega) (by omega) (by omega) (by omega), drop_get l z62 i h0 (by omega)]
    simp only [List.map_cons, List.append_assoc, List.singleton_append]; rfl
theorem news_f (l : List S62) (hl : l.length ≤ 1000) (k : Nat) (hk : 1000 < k) : stepstonelaw07_News.f k l = some (l.map new) := by
  have := news_l l hl l.length k [] 0 (by simp; omega) (by omega) (by omega) (by omega) (by omega)
  unfold stepstonelaw07_News.f
  simpa using this
theorem olds_l (l : List S52) (hl : l.length ≤ 1000) (d : Nat) : ∀ (k : Nat) (acc : List S62) (i : Int), acc.length + (l.length - i.toNat) ≤ 1000 → 0 ≤ i → i ≤ l.length → (l.length : Int) - i = d → d < k →
    stepstonelaw07_Olds.l0 k acc l (l.length : Int) i = some (acc ++ (l.drop i.toNat).map old) := by
  induction d with
  | zero =>
    intro k acc i ha h0 h1 hd hk
    obtain ⟨k, rfl⟩ : ∃ m, k = m + 1 := ⟨k - 1, by omega⟩
    simp only [stepstonelaw07_Olds.l0]; rw [if_neg (by omega), drop_end l i (by omega)]; simp
  | succ d ih =>
    intro k acc i ha h0 h1 hd hk
    obtain ⟨k, rfl⟩ : ∃ m, k = m + 1 := ⟨k - 1, by omega⟩
    simp only [stepstonelaw07_Olds.l0]
    rw [if_pos (by omega), if_pos h0, if_pos (by omega), if_pos (by omega), w64 h0 (by omega), ih k _ (i + 1) (by rw [List.length_append, List.length_singleton]; omega) (by omega) (by omega) (by omega) (by omega), drop_get l z52 i h0 (by omega)]
    simp only [List.map_cons, List.append_assoc, List.singleton_append]; rfl
theorem olds_f (l : List S52) (hl : l.length ≤ 1000) (k : Nat) (hk : 1000 < k) : stepstonelaw07_Olds.f k l = some (l.map old) := by
  have := olds_l l hl l.length k [] 0 (by simp; omega) (by omega) (by omega) (by omega) (by omega)
  unfold stepstonelaw07_Olds.f
  simpa using this
theorem pairs_f (l : List S52) (hl : l.length ≤ 1000) : seq_Map_Pairs.f l = some l := by
  unfold seq_Map_Pairs.f seq_Pair_29.f
  simp only [Option.bind_some, List.length_nil, List.nil_append]
  rw [if_pos (by omega)]; rfl
theorem equal_l (l m : List S62) (hl : l.length ≤ 1000) (hm : l.length = m.length) (d : Nat) : ∀ (k : Nat) (i : Int), 0 ≤ i → i ≤ l.length → (l.length : Int) - i = d → d < k →
    stepstoneref07_Equal.l0 k l m i = some (decide (l.drop i.toNat = m.drop i.toNat)) := by
  induction d with
  | zero =>
    intro k i h0 h1 hd hk
    obtain ⟨k, rfl⟩ : ∃ m, k = m + 1 := ⟨k - 1, by omega⟩
    simp only [stepstoneref07_Equal.l0]; rw [if_neg (by omega), drop_end l i (by omega), drop_end m i (by omega)]; simp
  | succ d ih =>
    intro k i h0 h1 hd hk
    obtain ⟨k, rfl⟩ : ∃ m, k = m + 1 := ⟨k - 1, by omega⟩
    simp only [stepstoneref07_Equal.l0]
    rw [if_pos (by omega), if_pos h0, if_pos (by omega), w64 h0 (by omega), ih k (i + 1) (by omega) (by omega) (by omega) (by omega), drop_get l z62 i h0 (by omega), drop_get m z62 i h0 (by omega)]
    have e1 : rd_T62 l i = l.getD i.toNat z62 := rfl
    have e2 : rd_T62 m i = m.getD i.toNat z62 := rfl
    rw [e1, e2]
    generalize l.getD i.toNat z62 = x
    generalize m.getD i.toNat z62 = y
    obtain ⟨x0, x1⟩ := x
    obtain ⟨y0, y1⟩ := y
    simp only [List.cons.injEq, S62.mk.injEq]
    by_cases h1 : x0 = y0 <;> by_cases h2 : x1 = y1 <;> simp [h1, h2]
theorem equal_f (l m : List S62) (hl : l.length ≤ 1000) (k : Nat) (hk : 1000 < k) : stepstoneref07_Equal.f k l m = some (decide (l = m)) := by
  unfold stepstoneref07_Equal.f
  by_cases h : l.length = m.length
  · rw [if_pos (by omega), equal_l l m hl h l.length k 0 (by omega) (by omega) (by omega) (by omega)]; simp
  · rw [if_neg (by omega)]
    have : l ≠ m := fun e => h (by rw [e])
    simp [this]
/-! ### answers -/
theorem eqk_l (l m : List Int) (hl : l.length ≤ 1000) (hm : l.length = m.length) (d : Nat) : ∀ (k : Nat) (i : Int), 0 ≤ i → i ≤ l.length → (l.length : Int) - i = d → d < k →
    slices_Equal_uint64_uint64.l0 k l m (l.length : Int) i = some (decide (l.drop i.toNat = m.drop i.toNat)) := by
  induction d with
  | zero =>
    intro k i h0 h1 hd hk
    obtain ⟨k, rfl⟩ : ∃ m, k = m + 1 := ⟨k - 1, by omega⟩
    simp only [slices_Equal_uint64_uint64.l0]; rw [if_neg (by omega), drop_end l i (by omega), drop_end m i (by omega)]; simp
  | succ d ih =>
    intro k i h0 h1 hd hk
    obtain ⟨k, rfl⟩ : ∃ m, k = m + 1 := ⟨k - 1, by omega⟩
    simp only [slices_Equal_uint64_uint64.l0]
    rw [if_pos (by omega), if_pos h0, if_pos (by omega), if_pos (by omega), w64 h0 (by omega), ih k (i + 1) (by omega) (by omega) (by omega) (by omega), drop_get l 0 i h0 (by omega), drop_get m 0 i h0 (by omega)]
    have e1 : rd l i = l.getD i.toNat 0 := rfl
    have e2 : rd m i = m.getD i.toNat 0 := rfl
    rw [e1, e2]
    generalize l.getD i.toNat 0 = x
    generalize m.getD i.toNat 0 = y
    simp only [List.cons.injEq]
    by_cases h1 : x = y <;> simp [h1]
theorem eqk_f (l m : List Int) (hl : l.length ≤ 1000) (k : Nat) (hk : 1000 < k) : slices_Equal_uint64_uint64.f k l m = some (decide (l = m)) := by
  unfold slices_Equal_uint64_uint64.f
  by_cases h : l.length = m.length
  · rw [if_pos (by omega), eqk_l l m hl h l.length k 0 (by omega) (by omega) (by omega) (by omega)]; simp
  · rw [if_neg (by omega)]
    have : l ≠ m := fun e => h (by rw [e])
    simp [this]
def sameB (a0 a1 : Bool) (a2 : Int) (a3 : List Int) (b0 b1 : Bool) (b2 : Int) (b3 : List Int) : Bool := a0 == b0 && (a1 == b1 && (decide (a2 = b2) && decide (a3 = b3)))
theorem same_f (a0 a1 : Bool) (a2 : Int) (a3 : List Int) (b0 b1 : Bool) (b2 : Int) (b3 : List Int) (hl : a3.length ≤ 1000) (k : Nat) (hk : 1000 < k) : seq_Same.f k a0 a1 a2 a3 b0 b1 b2 b3 = some (sameB a0 a1 a2 a3 b0 b1 b2 b3) := by
  unfold seq_Same.f sameB
  rw [eqk_f a3 b3 hl k hk]
  cases h1 : a0 == b0 <;> cases h2 : a1 == b1 <;> by_cases h3 : a2 = b2 <;> simp [h3]
theorem refSame_l (a0 a1 : Bool) (a2 : Int) (a3 : List Int) (b0 b1 : Bool) (b2 : Int) (b3 : List Int) (hl : a3.length ≤ 1000) (hm : a3.length = b3.length) (d : Nat) : ∀ (k : Nat) (i : Int), 0 ≤ i → i ≤ a3.length → (a3.length : Int) - i = d → d < k →
    stepstoneref07_Same.l0 k i a0 a1 a2 a3 b0 b1 b2 b3 = some (decide (a3.drop i.toNat = b3.drop i.toNat)) := by
  induction d with
  | zero =>
    intro k i h0 h1 hd hk
    obtain ⟨k, rfl⟩ : ∃ m, k = m + 1 := ⟨k - 1, by omega⟩
    simp only [stepstoneref07_Same.l0]; rw [if_neg (by omega), drop_end a3 i (by omega), drop_end b3 i (by omega)]; simp
  | succ d ih =>
    intro k i h0 h1 hd hk
    obtain ⟨k, rfl⟩ : ∃ m, k = m + 1 := ⟨k - 1, by omega⟩
    simp only [stepstoneref07_Same.l0]
    rw [if_pos (by omega), if_pos h0, if_pos (by omega), w64 h0 (by omega), ih k (i + 1) (by omega) (by omega) (by omega) (by omega), drop_get a3 0 i h0 (by omega), drop_get b3 0 i h0 (by omega)]
    have e1 : rd a3 i = a3.getD i.toNat 0 := rfl
    have e2 : rd b3 i = b3.getD i.toNat 0 := rfl
    rw [e1, e2]
    generalize a3.getD i.toNat 0 = x
    generalize b3.getD i.toNat 0 = y
    simp only [List.cons.injEq]
    by_cases h1 : x = y <;> simp [h1]
theorem refSame_f (a0 a1 : Bool) (a2 : Int) (a3 : List Int) (b0 b1 : Bool) (b2 : Int) (b3 : List Int) (hl : a3.length ≤ 1000) (k : Nat) (hk : 1001 < k) : stepstoneref07_Same.f k a0 a1 a2 a3 b0 b1 b2 b3 = some (sameB a0 a1 a2 a3 b0 b1 b2 b3) := by
  obtain ⟨k, rfl⟩ : ∃ m, k = m + 1 := ⟨k - 1, by omega⟩
  unfold stepstoneref07_Same.f sameB
  have hj : ∀ c, stepstoneref07_Same.j0 (k + 1) c a0 a1 a2 a3 b0 b1 b2 b3 = if c = true then some false else stepstoneref07_Same.l0 k 0 a0 a1 a2 a3 b0 b1 b2 b3 := fun c => by simp only [stepstoneref07_Same.j0]
  rw [hj, hj]
  by_cases hlen : a3.length = b3.length
  · rw [refSame_l a0 a1 a2 a3 b0 b1 b2 b3 hl hlen a3.length k 0 (by omega) (by omega) (by omega) (by omega)]
    cases a0 <;> cases b0 <;> cases a1 <;> cases b1 <;> by_cases h3 : a2 = b2 <;> simp [h3, hlen]
  · have : a3 ≠ b3 := fun e => hlen (by rw [e])
    have hlen' : ((a3.length : Int) != (b3.length : Int)) = true := by simp; omega
    rw [hlen']
    cases a0 <;> cases b0 <;> cases a1 <;> cases b1 <;> by_cases h3 : a2 = b2 <;> simp [h3, this]
/-! ### the document's map -/
theorem rd62 (l : List S52) (i : Int) : rd_T62 (l.map old) i = old (l.getD i.toNat z52) := by
  simp only [rd_T62, List.getD_eq_getElem?_getD, List.getElem?_map]
  cases l[i.toNat]? <;> rfl
theorem refGet_l (l : List S52) (o : Int) (hl : l.length ≤ 1000) (d : Nat) : ∀ (k : Nat) (i : Int), 0 ≤ i → i ≤ l.length → (l.length : Int) - i = d → d < k →
    stepstoneref07_get.l0 k (l.map old) o i = some (getM (l.drop i.toNat) o) := by
  induction d with
  | zero =>
    intro k i h0 h1 hd hk
    obtain ⟨k, rfl⟩ : ∃ m, k = m + 1 := ⟨k - 1, by omega⟩
    simp only [stepstoneref07_get.l0, List.length_map]; rw [if_neg (by omega), drop_end l i (by omega)]; rfl
  | succ d ih =>
    intro k i h0 h1 hd hk
    obtain ⟨k, rfl⟩ : ∃ m, k = m + 1 := ⟨k - 1, by omega⟩
    simp only [stepstoneref07_get.l0, List.length_map]
    rw [if_pos (by omega), if_pos h0, w64 h0 (by omega), ih k (i + 1) (by omega) (by omega) (by omega) (by omega), rd62, drop_get l z52 i h0 (by omega)]
    generalize l.getD i.toNat z52 = x
    by_cases h : x.f0 = o
    · simp [getM, old, h]
    · have : (x.f0 == o) = false := by simpa using h
      simp [getM, old, h, List.find?_cons, this]
theorem refGet_f (l : List S52) (o : Int) (hl : l.length ≤ 1000) (k : Nat) (hk : 1000 < k) : stepstoneref07_get.f k (l.map old) o = some (getM l o) := by
  have := refGet_l l o hl l.length k 0 (by omega) (by omega) (by omega) (by omega)
  unfold stepstoneref07_get.f
  simpa using this
theorem refWithout_l (l : List S52) (o : Int) (hl : l.length ≤ 1000) (d : Nat) : ∀ (k : Nat) (acc : List S62) (i : Int), acc.length + (l.length - i.toNat) ≤ 1000 → 0 ≤ i → i ≤ l.length → (l.length : Int) - i = d → d < k →
    stepstoneref07_Without.l0 k (l.map old) o acc i = some (acc ++ (del (l.drop i.toNat) o).map old) := by
  induction d with
  | zero =>
    intro k acc i ha h0 h1 hd hk
    obtain ⟨k, rfl⟩ : ∃ m, k = m + 1 := ⟨k - 1, by omega⟩
    simp only [stepstoneref07_Without.l0, List.length_map]; rw [if_neg (by omega), drop_end l i (by omega)]; simp [del]
  | succ d ih =>
    intro k acc i ha h0 h1 hd hk
    obtain ⟨k, rfl⟩ : ∃ m, k = m + 1 := ⟨k - 1, by omega⟩
    simp only [stepstoneref07_Without.l0, List.length_map]
    rw [if_pos (by omega), if_pos h0, w64 h0 (by omega), rd62, drop_get l z52 i h0 (by omega)]
    generalize l.getD i.toNat z52 = x
    by_cases h : x.f0 = o
    · rw [if_pos (show (old x).f0 = o from h), ih k _ (i + 1) (by omega) (by omega) (by omega) (by omega) (by omega)]
      simp [del, h]
    · have h' : (x.f0 == o) = false := by simpa using h
      rw [if_neg (show ¬ (old x).f0 = o from h), if_pos (by omega), ih k _ (i + 1) (by rw [List.length_append, List.length_singleton]; omega) (by omega) (by omega) (by omega) (by omega)]
      simp [del, List.filter_cons, h', List.append_assoc]
theorem refWithout_f (l : List S52) (o : Int) (hl : l.length ≤ 1000) (k : Nat) (hk : 1000 < k) : stepstoneref07_Without.f k (l.map old) o = some ((del l o).map old) := by
  have := refWithout_l l o hl l.length k [] 0 (by simp; omega) (by omega) (by omega) (by omega) (by omega)
  unfold stepstoneref07_Without.f
  simpa using this
/-- What the document's loop adds from here on. -/
def wr (k v : Int) : Bool → List S52 → List S52
  | done, [] => if done then [] else [⟨k, v⟩]
  | done, x :: r => (if k ≤ x.f0 ∧ done = false then [⟨k, v⟩] else []) ++ (if x.f0 = k then [] else [x]) ++ wr k v (done || decide (k ≤ x.f0)) r
theorem wr_len (k v : Int) : ∀ (l : List S52) (done : Bool), (wr k v done l).length ≤ l.length + 1
  | [], done => by cases done <;> simp [wr]
  | x :: r, true => by
    have := wr_len k v r true
    have h2 : ∀ l : List S52, (wr k v true l).length ≤ l.length := by
      intro l
      induction l with
      | nil => simp [wr]
      | cons y q ih => simp only [wr, Bool.true_or, Bool.true_eq_false, and_false, if_false, List.nil_append, List.length_append, List.length_cons]; split <;> simp <;> omega
    have := h2 (x :: r)
    omega
  | x :: r, false => by
    have h1 := wr_len k v r false
    have h2 : ∀ l : List S52, (wr k v true l).length ≤ l.length := by
      intro l
      induction l with
      | nil => simp [wr]
      | cons y q ih => simp only [wr, Bool.true_or, Bool.true_eq_false, and_false, if_false, List.nil_append, List.length_append, List.length_cons]; split <;> simp <;> omega
    have h3 := h2 r
    simp only [wr, Bool.false_or, and_true, List.length_append, List.length_cons]
    by_cases h : k ≤ x.f0
    · simp only [h, if_true, decide_true, List.length_singleton]; split <;> simp <;> omega
    · simp only [h, if_false, decide_false, List.length_nil]; split <;> simp <;> omega
theorem refWith_l (l : List S52) (o v : Int) (hl : l.length ≤ 1000) (d : Nat) : ∀ (k : Nat) (acc : List S62) (done : Bool) (i : Int), acc.length + 2 * (l.length - i.toNat) ≤ 4000 → 0 ≤ i → i ≤ l.length → (l.length : Int) - i = d → 2 * d < k →
    stepstoneref07_With.l0 k (l.map old) acc done i o v = some (acc ++ (wr o v done (l.drop i.toNat)).map old) := by
  induction d with
  | zero =>
    intro k acc done i ha h0 h1 hd hk
    obtain ⟨k, rfl⟩ : ∃ m, k = m + 1 := ⟨k - 1, by omega⟩
    simp only [stepstoneref07_With.l0, List.length_map]; rw [if_neg (by omega), drop_end l i (by omega)]
    cases done
    · simp only [wr, Bool.false_eq_true, if_false]; rw [if_pos (by omega)]; rfl
    · simp [wr]
  | succ d ih =>
    intro k acc done i ha h0 h1 hd hk
    obtain ⟨k, rfl⟩ : ∃ m, k = m + 2 := ⟨k - 2, by omega⟩
    simp only [stepstoneref07_With.l0, stepstoneref07_With.j1, List.length_map]
    rw [if_pos (by omega), if_pos h0, rd62, drop_get l z52 i h0 (by omega)]
    generalize l.getD i.toNat z52 = x
    simp only [if_pos h0, if_pos (show i < (l.length : Int) by omega), w64 h0 (show i < 1000000 by omega), Option.bind_some]
    have hb1 : acc.length < 8796093022208 := by omega
    have hb2 : (acc ++ [(⟨o, v⟩ : S62)]).length < 8796093022208 := by rw [List.length_append, List.length_singleton]; omega
    have ih0 := fun (a : List S62) (dn : Bool) (h : a.length + 2 * (l.length - (i + 1).toNat) ≤ 4000) => ih k a dn (i + 1) h (by omega) (by omega) (by omega) (by omega)
    simp only [if_pos hb1, if_pos hb2]
    by_cases hge : o ≤ x.f0
    · have hge' : (old x).f0 ≥ o := hge
      rw [if_pos hge']
      cases done
      · simp only [Bool.not_false, if_true]
        by_cases he : x.f0 = o
        · rw [if_pos (show (old x).f0 = o from he), ih0 _ true (by rw [List.length_append, List.length_singleton]; omega)]
          simp [wr, hge, he, old]
        · rw [if_neg (show ¬ (old x).f0 = o from he), ih0 _ true (by simp only [List.length_append, List.length_singleton]; omega)]
          simp [wr, hge, he, old]
      · simp only [Bool.not_true, Bool.false_eq_true, if_false]
        by_cases he : x.f0 = o
        · rw [if_pos (show (old x).f0 = o from he), ih0 _ true (by omega)]
          simp [wr, he]
        · rw [if_neg (show ¬ (old x).f0 = o from he), ih0 _ true (by rw [List.length_append, List.length_singleton]; omega)]
          simp [wr, he, old]
    · have hge' : ¬ (old x).f0 ≥ o := hge
      have he : ¬ x.f0 = o := by omega
      rw [if_neg hge']
      simp only [Bool.false_eq_true, if_false]
      rw [if_neg (show ¬ (old x).f0 = o from he), ih0 _ done (by rw [List.length_append, List.length_singleton]; omega)]
      simp [wr, hge, he, old]
theorem wr_done {l : List S52} (k v : Int) (h : ∀ q ∈ l, k < q.f0) : wr k v true l = l := by
  induction l with
  | nil => rfl
  | cons x r ih =>
    have h1 := h x List.mem_cons_self
    have h2 : ¬ x.f0 = k := by omega
    simp only [wr, Bool.true_eq_false, and_false, if_false, List.nil_append, Bool.true_or, if_neg h2, ih (fun q hq => h q (List.mem_cons_of_mem _ hq)), List.singleton_append]
theorem wr_ins {l : List S52} (hs : Srt l) (k v : Int) : wr k v false l = ins l k v := by
  induction l with
  | nil => rfl
  | cons x r ih =>
    obtain ⟨h1, h2⟩ := srt_cons.1 hs
    by_cases hge : k ≤ x.f0
    · have hr : wr k v true r = r := wr_done k v (fun q hq => by have := h1 q hq; omega)
      have f1 : (x :: r).filter (fun p => decide (p.f0 < k)) = [] := by
        rw [List.filter_eq_nil_iff]
        intro q hq
        rcases List.mem_cons.1 hq with rfl | hq
        · simp; omega
        · have := h1 q hq; simp; omega
      have f2 : r.filter (fun p => decide (k < p.f0)) = r := by
        rw [List.filter_eq_self]
        intro q hq
        have := h1 q hq; simp; omega
      simp only [wr, hge, and_self, if_true, decide_true, Bool.or_true, hr, ins, f1, List.nil_append]
      by_cases he : x.f0 = k
      · simp [he, f2]
      · have : k < x.f0 := by omega
        simp [he, f2, this]
    · have he : ¬ x.f0 = k := by omega
      have hlt : x.f0 < k := by omega
      have hn : ¬ k < x.f0 := by omega
      simp only [wr, hge, false_and, if_false, decide_false, Bool.or_false, ih h2, he, List.nil_append]
      simp [ins, hlt, hn]
theorem refWith_f (l : List S52) (o v : Int) (hs : Srt l) (hl : l.length ≤ 1000) (k : Nat) (hk : 2000 < k) : stepstoneref07_With.f k (l.map old) o v = some ((ins l o v).map old) := by
  have := refWith_l l o v hl l.length k [] false 0 (by simp; omega) (by omega) (by omega) (by omega) (by omega)
  unfold stepstoneref07_With.f
  rw [← wr_ins hs]
  simpa using this
def ofL (acc l : List S52) : List S52 := l.foldl (fun m p => ins m p.f0 p.f1) acc
theorem srt_ofL (l : List S52) : ∀ acc, Srt acc → Srt (ofL acc l) := by
  induction l with
  | nil => exact fun _ h => h
  | cons x r ih => exact fun acc h => ih _ (srt_ins h _ _)
theorem ofL_len (l : List S52) : ∀ acc, (ofL acc l).length ≤ acc.length + l.length := by
  induction l with
  | nil => exact fun acc => Nat.le_refl _
  | cons x r ih =>
    intro acc
    have h1 := ih (ins acc x.f0 x.f1)
    have h2 := ins_len acc x.f0 x.f1
    simp only [ofL, List.foldl_cons, List.length_cons] at h1 ⊢
    omega
theorem of_l (l : List S52) (hl : l.length ≤ 500) (d : Nat) : ∀ (k : Nat) (acc : List S52) (i : Int), Srt acc → acc.length + (l.length - i.toNat) ≤ 1000 → 0 ≤ i → i ≤ l.length → (l.length : Int) - i = d → d + 1001 < k →
    seq_Of.l0 k l (l.length : Int) i acc = some (ofL acc (l.drop i.toNat)) := by
  induction d with
  | zero =>
    intro k acc i hs ha h0 h1 hd hk
    obtain ⟨k, rfl⟩ : ∃ m, k = m + 1 := ⟨k - 1, by omega⟩
    simp only [seq_Of.l0]; rw [if_neg (by omega), drop_end l i (by omega)]; rfl
  | succ d ih =>
    intro k acc i hs ha h0 h1 hd hk
    obtain ⟨k, rfl⟩ : ∃ m, k = m + 1 := ⟨k - 1, by omega⟩
    simp only [seq_Of.l0]
    have h3 := ins_len acc (rd_T52 l i).f0 (rd_T52 l i).f1
    rw [if_pos (by omega), if_pos h0, if_pos (by omega), with_f acc _ _ hs (by omega) k (by omega), Option.bind_some, w64 h0 (by omega), ih k _ (i + 1) (srt_ins hs _ _) (by omega) (by omega) (by omega) (by omega) (by omega), drop_get l z52 i h0 (by omega)]
    rfl
theorem of_f (l : List S52) (hl : l.length ≤ 500) (k : Nat) (hk : 2000 < k) : seq_Of.f k l = some (ofL [] l) := by
  have := of_l l hl l.length k [] 0 List.Pairwise.nil (by simp; omega) (by omega) (by omega) (by omega) (by omega)
  unfold seq_Of.f
  simpa using this
theorem refOf_l (l : List S62) (hl : l.length ≤ 500) (d : Nat) : ∀ (k : Nat) (acc : List S52) (i : Int), Srt acc → acc.length + (l.length - i.toNat) ≤ 1000 → 0 ≤ i → i ≤ l.length → (l.length : Int) - i = d → d + 2001 < k →
    stepstoneref07_Of.l0 k l (acc.map old) i = some ((ofL acc ((l.drop i.toNat).map new)).map old) := by
  induction d with
  | zero =>
    intro k acc i hs ha h0 h1 hd hk
    obtain ⟨k, rfl⟩ : ∃ m, k = m + 1 := ⟨k - 1, by omega⟩
    simp only [stepstoneref07_Of.l0]; rw [if_neg (by omega), drop_end l i (by omega)]; rfl
  | succ d ih =>
    intro k acc i hs ha h0 h1 hd hk
    obtain ⟨k, rfl⟩ : ∃ m, k = m + 1 := ⟨k - 1, by omega⟩
    simp only [stepstoneref07_Of.l0]
    have h3 := ins_len acc (rd_T62 l i).f0 (rd_T62 l i).f1
    rw [if_pos (by omega), if_pos h0, refWith_f acc _ _ hs (by omega) k (by omega), Option.bind_some, w64 h0 (by omega), ih k _ (i + 1) (srt_ins hs _ _) (by omega) (by omega) (by omega) (by omega) (by omega), drop_get l z62 i h0 (by omega)]
    rfl
theorem refOf_f (l : List S62) (hl : l.length ≤ 500) (k : Nat) (hk : 3000 < k) : stepstoneref07_Of.f k l = some ((ofL [] (l.map new)).map old) := by
  have := refOf_l l hl l.length k [] 0 List.Pairwise.nil (by simp; omega) (by omega) (by omega) (by omega) (by omega)
  unfold stepstoneref07_Of.f
  simpa using this
end Go.Eng
