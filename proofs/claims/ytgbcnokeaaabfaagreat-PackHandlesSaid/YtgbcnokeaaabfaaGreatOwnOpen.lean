/-
Arguments of a law, of whatever type without pointers and maps, opened to the printer's kinds of values.
-/
import Derived.Test.YtgbcnokeaaabfaaGreatA11
import Derived.Deep.Slices
import Derived.ChangeArms
import Derived.OpenShut
import Derived.WideShapes
namespace Go.Proofs.YtgbcnokeaaabfaaGreat.Open
open Go.ChangeShapes Go.WideShapes Go.RowKit Go.Deep Go.Proofs.YtgbcnokeaaabfaaGreatW.PrintWords

/-- Whatever cells read as type t are a value of kind d, which meets W. -/
def Tells {α : Type} (P : Program) (t : TypeId) (d : Kd α) (W : α → Prop) : Prop :=
  ∀ (H : Type) (enc : TypeId × Value → H) (w : World) (base : Nat) (spare : Nat → Bool) (held : Bool) (fuel : Nat) (cs : List Value) (x : DataW H × List MemPlace),
    DataW.trod enc P w base spare held fuel t cs = some x → ∃ a, d.K w a cs ∧ W a

variable {P : Program}

theorem Tells.int {t : TypeId} {k : IntKind} (ht : P.underlying t = some (.int k)) : Tells P t (Kd.int k) (fun n => (Lit.int k n).wf = true) := by
  intro H enc w base spare held fuel cs x h
  obtain ⟨n, h1, _, h2⟩ := DataW.trod_int ht h
  exact ⟨n, h1, h2⟩
theorem Tells.bool {t : TypeId} (ht : P.underlying t = some .bool) : Tells P t Kd.bool (fun _ => True) := by
  intro H enc w base spare held fuel cs x h
  obtain ⟨b, h1, _⟩ := DataW.trod_bool ht h
  exact ⟨b, h1, trivial⟩
theorem Tells.string {t : TypeId} (ht : P.underlying t = some .string) : Tells P t Kd.string (fun s => s.size ≤ maxLen) := by
  intro H enc w base spare held fuel cs x h
  obtain ⟨s, h1, _, h2⟩ := DataW.trod_string ht h
  exact ⟨s, h1, h2⟩

theorem choose_lt {α : Type} {p : Nat → α → Prop} : ∀ (n : Nat), (∀ i, i < n → ∃ a, p i a) → ∃ l : List α, l.length = n ∧ ∀ i a, l[i]? = some a → p i a
  | 0, _ => ⟨[], rfl, fun i a h => by simp at h⟩
  | n + 1, h => by
    obtain ⟨l, hl, hp⟩ := choose_lt n (fun i hi => h i (by omega))
    obtain ⟨a, ha⟩ := h n (by omega)
    refine ⟨l ++ [a], by simp [hl], fun i b hb => ?_⟩
    rcases Nat.lt_or_ge i n with hi | hi
    · exact hp i b (by rwa [List.getElem?_append_left (by omega)] at hb)
    · have hi' : i = n := by
        have := (List.getElem?_eq_some_iff.1 hb).1
        simp at this; omega
      subst hi'
      have : a = b := by simpa [← hl] using hb
      exact this ▸ ha

theorem Tells.slice {α : Type} {t e e' : TypeId} {d : Kd α} {W : α → Prop} (ht : P.underlying t = some (.slice e)) (hc : P.cellsOf e = d.sz) (hd : Tells P e d W) :
    Tells P t (Kd.slice e' d) (fun xs => xs.length ≤ maxLen ∧ ∀ x ∈ xs, W x) := by
  intro H enc w base spare held fuel cs x h
  rcases open_slice ht h with ⟨rfl, _⟩ | ⟨a, len, cap, m, n, D, Pl, rfl, _, hl, hm, hmm, _, hx⟩
  · exact ⟨[], ⟨none, 0, rfl, Nat.le_refl _, rfl, by simp, fun h => absurd h (by simp)⟩, by simp, fun x hx => by simp at hx⟩
  · have hlm : len ≤ m := by rw [hmm]; split <;> omega
    obtain ⟨xs, hxl, hxs⟩ := choose_lt (p := fun i (z : α) => W z ∧ ∃ c, c.length = d.sz ∧ d.K w z c ∧ ∀ j u, c[j]? = some u → w.cell? (a.add (i * d.sz + j)) = some u) len (fun i hi => by
      obtain ⟨cs', h1, h2⟩ := hx i (by omega)
      rw [hc] at h1
      obtain ⟨_, hcl, hat⟩ := World.cells?_some h1
      obtain ⟨z, hz, hw⟩ := hd H enc w base spare held n cs' _ h2
      refine ⟨z, hw, cs', hcl, hz, fun j u hu => ?_⟩
      have hj : j < d.sz := by rw [← hcl]; exact (List.getElem?_eq_some_iff.1 hu).1
      rw [← Go.Deep.add_add, hat j hj, hu])
    subst hxl
    have hml : maxLen = 9223372036854775807 := rfl
    refine ⟨xs, ⟨some a, cap, rfl, hl, rfl, by omega, fun _ => ⟨a, rfl, fun j p hj => (hxs j p hj).2⟩⟩, by omega, fun x hx => ?_⟩
    obtain ⟨i, hi⟩ := List.mem_iff_getElem?.1 hx
    exact (hxs i x hi).1

/-- Fields in line, from the offset s on. -/
def TellsRow {α : Type} (P : Program) (ts : List (TypeId × Nat)) (s : Nat) (d : Kd α) (W : α → Prop) : Prop :=
  ∀ (H : Type) (enc : TypeId × Value → H) (w : World) (base : Nat) (spare : Nat → Bool) (held : Bool) (n : Nat) (cs : List Value), cs.length = d.sz →
    (∀ (j : Nat) (t : TypeId) (o : Nat), ts[j]? = some (t, o) → ∃ y, DataW.trod enc P w base spare held n t ((cs.drop (o - s)).take (P.cellsOf t)) = some y) → ∃ a, d.K w a cs ∧ W a
theorem TellsRow.one {α : Type} {t : TypeId} {s : Nat} {d : Kd α} {W : α → Prop} (hd : Tells P t d W) (hc : P.cellsOf t = d.sz) : TellsRow P [(t, s)] s d W := by
  intro H enc w base spare held n cs hl h
  obtain ⟨y, hy⟩ := h 0 t s rfl
  rw [Nat.sub_self, List.drop_zero, hc, ← hl, List.take_length] at hy
  exact hd H enc w base spare held n cs y hy
theorem TellsRow.cons {α β : Type} {t : TypeId} {s s' : Nat} {ts : List (TypeId × Nat)} {d : Kd α} {W : α → Prop} {d' : Kd β} {W' : β → Prop} (hd : Tells P t d W) (hc : P.cellsOf t = d.sz) (hs : s' = s + d.sz) (ho : ts.all (fun z => decide (s' ≤ z.2)) = true)
    (hr : TellsRow P ts s' d' W') : TellsRow P ((t, s) :: ts) s (Kd.pair d d') (fun z => W z.1 ∧ W' z.2) := by
  intro H enc w base spare held n cs hl h
  have hl' : cs.length = d.sz + d'.sz := hl
  obtain ⟨y, hy⟩ := h 0 t s rfl
  rw [Nat.sub_self, List.drop_zero, hc] at hy
  obtain ⟨a, ha, hw⟩ := hd H enc w base spare held n _ y hy
  obtain ⟨b, hb, hw'⟩ := hr H enc w base spare held n (cs.drop d.sz) (by rw [List.length_drop, hl']; omega) (fun j t' o hj => by
    obtain ⟨y', hy'⟩ := h (j + 1) t' o (by simpa using hj)
    have hge : s' ≤ o := by
      have := List.all_eq_true.1 ho _ (List.mem_of_getElem? hj)
      simpa using this
    refine ⟨y', ?_⟩
    rw [List.drop_drop, show d.sz + (o - s') = o - s by omega]
    exact hy')
  exact ⟨(a, b), ⟨_, _, (List.take_append_drop d.sz cs).symm, ha, hb⟩, hw, hw'⟩
theorem Tells.struct {α β : Type} {t : TypeId} {fs : Array Field} {ts : List (TypeId × Nat)} {d : Kd α} {W : α → Prop} (f : β → α) (g : α → β) (hfg : ∀ y, f (g y) = y) (ht : P.underlying t = some (.struct fs)) (hts : fs.toList.map (fun z => (z.type, z.offset)) = ts) (hc : P.cellsOf t = d.sz)
    (hd : TellsRow P ts 0 d W) : Tells P t (Kd.iso d f) (fun x => W (f x)) := by
  intro H enc w base spare held fuel cs x h
  obtain ⟨xs, n, rfl, rfl, hl, hxl, hf⟩ := DataW.trod_struct ht h
  obtain ⟨a, ha, hw⟩ := hd H enc w base spare held n cs (by rw [hl, hc]) (fun j t' o hj => by
    subst hts
    rw [List.getElem?_map] at hj
    cases hz : fs.toList[j]? with
    | none => rw [hz] at hj; simp at hj
    | some z =>
      rw [hz] at hj
      simp only [Option.map_some, Option.some.injEq, Prod.mk.injEq] at hj
      obtain ⟨rfl, rfl⟩ := hj
      have hj' : fs[j]? = some z := by simpa using hz
      have hlt : j < xs.length := by rw [hxl]; exact (Array.getElem?_eq_some_iff.1 hj').1
      exact ⟨xs[j]'hlt, by rw [Nat.sub_zero, hf j z hj', List.getElem?_eq_getElem hlt]⟩)
  exact ⟨g a, by show d.K w (f (g a)) cs; rw [hfg]; exact ha, by show W (f (g a)); rw [hfg]; exact hw⟩

/-- A struct parameter: its value, and what it is. -/
theorem open_struct {α : Type} {t : TypeId} {fs : Array Field} {d : Kd α} {W : α → Prop} {H : Type} {enc : TypeId × Value → H} {w : World} {base : Nat} {spare : Nat → Bool} {held : Bool} {r : Reach} {b0 : Nat} {v : Value} {x : DataW H} {p : List MemPlace}
    (hT : Tells P t d W) (ht : P.underlying t = some (.struct fs)) (hv : Value.okWide P w r b0 t v) (h : DataW.Trod enc P w base spare held t v x p) : ∃ a cs, v = .agg cs ∧ d.K w a cs.toList ∧ W a := by
  obtain ⟨cs, rfl, _⟩ := okWide_struct ht hv
  obtain ⟨fuel, hf⟩ := h
  obtain ⟨a, ha, hw⟩ := hT H enc w base spare held fuel _ _ hf
  exact ⟨a, cs, rfl, ha, hw⟩
/-- A slice parameter. -/
theorem open_row {α : Type} {t e e' : TypeId} {d : Kd α} {W : List α → Prop} {H : Type} {enc : TypeId × Value → H} {w : World} {base : Nat} {spare : Nat → Bool} {held : Bool} {r : Reach} {b0 : Nat} {v : Value} {x : DataW H} {p : List MemPlace}
    (hT : Tells P t (Kd.slice e' d) W) (ht : P.underlying t = some (.slice e)) (hv : Value.okWide P w r b0 t v) (h : DataW.Trod enc P w base spare held t v x p) :
    ∃ A c l, v = .slice A l.length c ∧ l.length ≤ c ∧ d.C w A l.length l ∧ W l := by
  obtain ⟨a, len, cap, rfl⟩ := okWide_slice ht hv
  obtain ⟨fuel, hf⟩ := h
  obtain ⟨l, ⟨A, c, e, hl, hC⟩, hw⟩ := hT H enc w base spare held fuel _ _ hf
  have e' : Value.slice a len cap = .slice A l.length c := by
    have : [Value.slice a len cap] = [.slice A l.length c] := e
    exact (List.cons.inj this).1
  exact ⟨A, c, l, e', hl, hC, hw⟩
end Go.Proofs.YtgbcnokeaaabfaaGreat.Open
