/-
What an operation of a run makes of memory: what goes on from what.
-/
import Derived.Test.YtlipgpeninlcdaaGreatZ7
namespace Go.Run
open Go.Eng
set_option linter.unusedVariables false
set_option linter.unusedSimpArgs false
theorem memN_eq (b x : Nat) (r : List Nat) : memN b (x :: r) = match Nat.beq x b with | true => true | false => memN b r := by
  show Bool.rec (motive := fun _ => Bool) (memN b r) true (Nat.beq x b) = _
  cases Nat.beq x b <;> rfl
theorem memN_ok : ∀ {l : List Nat} {b : Nat}, memN b l = true ↔ b ∈ l
  | [], b => by simp; rfl
  | x :: r, b => by
    rw [memN_eq]
    by_cases h : x = b
    · rw [beq_t.2 h]; simp [h]
    · rw [beq_f.2 h]
      simp only [memN_ok (l := r), List.mem_cons]
      exact ⟨.inr, fun h' => h'.resolve_left (fun e => h e.symm)⟩
theorem ins_iff {l : List Nat} {b x : Nat} : x ∈ ins b l ↔ x = b ∨ x ∈ l := by
  unfold ins
  split
  · rename_i h
    exact ⟨.inr, fun h' => h'.elim (fun e => by rw [e]; exact memN_ok.1 h) id⟩
  · exact List.mem_cons
theorem mem_ins {l : List Nat} {b : Nat} : b ∈ ins b l := ins_iff.2 (.inl rfl)
theorem uni_iff {c c' : Nat} : ∀ {l w : List Nat} {x : Nat}, x ∈ uni c c' l w ↔ (x ∈ l ∧ ¬ (c ≤ x ∧ x < c')) ∨ x ∈ w
  | [], w, x => by simp [uni]
  | b :: r, w, x => by
    unfold uni
    split
    · rename_i h
      rw [Bool.and_eq_true] at h
      have h1 := Nat.le_of_ble_eq_true h.1
      have h2 : b < c' := Nat.le_of_ble_eq_true h.2
      rw [uni_iff, List.mem_cons]
      constructor
      · rintro (⟨h3, h4⟩ | h3)
        · exact .inl ⟨.inr h3, h4⟩
        · exact .inr h3
      · rintro (⟨h3, h4⟩ | h3)
        · rcases h3 with rfl | h3
          · exact absurd ⟨h1, h2⟩ h4
          · exact .inl ⟨h3, h4⟩
        · exact .inr h3
    · rename_i h
      have hb : ¬ (c ≤ b ∧ b < c') := fun ⟨h1, h2⟩ => by
        have e1 : Nat.ble c b = true := Nat.ble_eq_true_of_le h1
        have e2 : Nat.blt b c' = true := Nat.ble_eq_true_of_le h2
        rw [e1, e2] at h
        cases h
      rw [ins_iff, uni_iff, List.mem_cons]
      constructor
      · rintro (rfl | ⟨h3, h4⟩ | h3)
        · exact .inl ⟨.inl rfl, hb⟩
        · exact .inl ⟨.inr h3, h4⟩
        · exact .inr h3
      · rintro (⟨h3, h4⟩ | h3)
        · rcases h3 with rfl | h3
          · exact .inl rfl
          · exact .inr (.inl ⟨h3, h4⟩)
        · exact .inr (.inr h3)
def Fresh (E : Env) (c c' : Nat) : Prop := ∀ b, c ≤ b → b < c' → E.ν b = none ∧ E.κ b = none
theorem Fresh.sub {E : Env} {c c' d d' : Nat} (h : Fresh E c c') (h1 : c ≤ d) (h2 : d' ≤ c') : Fresh E d d' := fun b hb hb' => h b (Nat.le_trans h1 hb) (Nat.lt_of_lt_of_le hb' h2)
structure Nx (w0 : World) (E : Env) (H : Nat → Option Ob) (c : Nat) (w : World) (E' : Env) (H' : Nat → Option Ob) (c' : Nat) (wl : List Nat) (w' : World) : Prop where
  ext : Ext E E'
  wr : Wr w0 E' H' w'
  size : w.heap.size ≤ w'.heap.size
  nu : ∀ b g, E'.ν b = some g → E.ν b = some g ∨ (c ≤ b ∧ b < c' ∧ (w.heap.size ≤ g ∨ ∃ b0 ∈ wl, H b0 ≠ none ∧ E.ν b0 = some g))
  kap : ∀ i k, E'.κ i = some k → E.κ i = some k ∨ (c ≤ i ∧ i < c')
  keep : ∀ g, g < w.heap.size → (∀ b ∈ wl, H b ≠ none → E.ν b ≠ some g) → w'.heap[g]? = w.heap[g]?
  same : ∀ b, b ∉ wl → (b < c ∨ c' ≤ b) → H' b = H b
  live : ∀ b, H' b ≠ none → H b ≠ none ∨ (c ≤ b ∧ b < c')
def FA (E : Env) (F : Fm) (n : Nat) (a : Act) : Prop := ∃ FL, Fr ⟨n, []⟩ a FL ∧ FRel E F FL
theorem FA.mono {E E' : Env} {F : Fm} {n : Nat} {a : Act} (h : FA E F n a) (hx : Ext E E') : FA E' F n a := by
  obtain ⟨FL, h1, h2⟩ := h
  exact ⟨FL, h1, h2.mono hx⟩
theorem Nx.refl {w0 : World} {E : Env} {H : Nat → Option Ob} {w : World} (h : Wr w0 E H w) (c : Nat) (wl : List Nat) : Nx w0 E H c w E H c wl w :=
  ⟨Ext.refl E, h, Nat.le_refl _, fun _ _ h => .inl h, fun _ _ h => .inl h, fun _ _ _ => rfl, fun _ _ _ => rfl, fun _ h => .inl h⟩
theorem Nx.trans {w0 : World} {E E1 E2 : Env} {H H1 H2 : Nat → Option Ob} {c c1 c2 : Nat} {wl wl' : List Nat} {w w1 w2 : World} (h : Nx w0 E H c w E1 H1 c1 wl w1) (k : Nx w0 E1 H1 c1 w1 E2 H2 c2 wl' w2) (hs : ∀ b ∈ wl, b ∈ wl') (hf : Fresh E c c2) (h1 : c ≤ c1) (h2 : c1 ≤ c2) : Nx w0 E H c w E2 H2 c2 wl' w2 := by
  have old : ∀ b g, H1 b ≠ none → E.ν b = some g → H b ≠ none := fun b g hb hg => by
    rcases h.live b hb with h3 | ⟨h3, h4⟩
    · exact h3
    · have := (hf b h3 (Nat.lt_of_lt_of_le h4 h2)).1
      rw [this] at hg; cases hg
  refine ⟨h.ext.trans k.ext, k.wr, Nat.le_trans h.size k.size, fun b g hb => ?_, fun i x hi => ?_, fun g hg hn => ?_, fun b hb hr => ?_, fun b hb => ?_⟩
  · rcases k.nu b g hb with h3 | ⟨h3, h4, h5⟩
    · rcases h.nu b g h3 with h6 | ⟨h6, h7, h8⟩
      · exact .inl h6
      · refine .inr ⟨h6, Nat.lt_of_lt_of_le h7 h2, ?_⟩
        rcases h8 with h8 | ⟨b0, h8, h9⟩
        · exact .inl h8
        · exact .inr ⟨b0, hs b0 h8, h9⟩
    · refine .inr ⟨Nat.le_trans h1 h3, h4, ?_⟩
      rcases h5 with h5 | ⟨b0, h5, h6, h7⟩
      · exact .inl (Nat.le_trans h.size h5)
      · rcases h.nu b0 g h7 with h8 | ⟨h8, h9, h10⟩
        · exact .inr ⟨b0, h5, old b0 g h6 h8, h8⟩
        · rcases h10 with h10 | ⟨b1, h10, h11⟩
          · exact .inl h10
          · exact .inr ⟨b1, hs b1 h10, h11⟩
  · rcases k.kap i x hi with h3 | ⟨h3, h4⟩
    · rcases h.kap i x h3 with h5 | ⟨h5, h6⟩
      · exact .inl h5
      · exact .inr ⟨h5, Nat.lt_of_lt_of_le h6 h2⟩
    · exact .inr ⟨Nat.le_trans h1 h3, h4⟩
  · have e1 := h.keep g hg (fun b hb => hn b (hs b hb))
    refine (k.keep g (Nat.lt_of_lt_of_le hg h.size) (fun b hb hl e => ?_)).trans e1
    rcases h.nu b g e with h3 | ⟨h3, h4, h5⟩
    · exact hn b hb (old b g hl h3) h3
    · rcases h5 with h5 | ⟨b0, h5, h6, h7⟩
      · omega
      · exact hn b0 (hs b0 h5) h6 h7
  · have e1 := h.same b (fun hm => hb (hs b hm)) (by omega)
    exact (k.same b hb (by omega)).trans e1
  · rcases k.live b hb with h3 | ⟨h3, h4⟩
    · rcases h.live b h3 with h5 | ⟨h5, h6⟩
      · exact .inl h5
      · exact .inr ⟨h5, by omega⟩
    · exact .inr ⟨by omega, h4⟩
/-- What is new behind the first of two is not what the second takes. -/
theorem Nx.fresh {w0 : World} {E E1 : Env} {H H1 : Nat → Option Ob} {c c1 c2 : Nat} {wl : List Nat} {w w1 : World} (h : Nx w0 E H c w E1 H1 c1 wl w1) (hf : Fresh E c c2) (h1 : c ≤ c1) : Fresh E1 c1 c2 := fun b hb hb' => by
  obtain ⟨f1, f2⟩ := hf b (Nat.le_trans h1 hb) hb'
  refine ⟨?_, ?_⟩
  · cases e : E1.ν b with
    | none => rfl
    | some g =>
      rcases h.nu b g e with h3 | ⟨_, h4, _⟩
      · rw [f1] at h3; cases h3
      · omega
  · cases e : E1.κ b with
    | none => rfl
    | some g =>
      rcases h.kap b g e with h3 | ⟨_, h4⟩
      · rw [f2] at h3; cases h3
      · omega
noncomputable def Env.new (E : Env) (c g : Nat) (k : Option Nat) : Env := ⟨E.ρ, fun b => if b = c then some g else E.ν b, fun i => if i = c then k else E.κ i⟩
section
variable {P : Program} {E : Env} {H : PT Ob} {c : Nat} {w0 w w' : World}
theorem Wr.dead (h : Wr w0 E H.get w) {c : Nat} (hf : E.ν c = none) : H.get c = none := by
  cases e : H.get c with
  | none => rfl
  | some o =>
    obtain ⟨g, obj, h1, _⟩ := h.lr c o e
    rw [hf] at h1; cases h1
theorem ext_new (f1 : E.ν c = none) (f2 : E.κ c = none) (g : Nat) (k : Option Nat) : Ext E (E.new c g k) := by
  refine ⟨rfl, fun b x hb => ?_, fun i x hi => ?_⟩
  · show (if b = c then some g else E.ν b) = some x
    rw [if_neg (fun e => by rw [e, f1] at hb; cases hb)]; exact hb
  · show (if i = c then k else E.κ i) = some x
    rw [if_neg (fun e => by rw [e, f2] at hi; cases hi)]; exact hi
theorem new_ν (E : Env) (c g : Nat) (k : Option Nat) : (E.new c g k).ν c = some g := if_pos rfl
theorem new_κ (E : Env) (c g : Nat) (k : Option Nat) : (E.new c g k).κ c = k := if_pos rfl
theorem new_ν' {E : Env} {c g b x : Nat} {k : Option Nat} (h : (E.new c g k).ν b = some x) : (b = c ∧ x = g) ∨ (b ≠ c ∧ E.ν b = some x) := by
  have h : (if b = c then some g else E.ν b) = some x := h
  by_cases e : b = c
  · rw [if_pos e] at h; injection h with h; exact .inl ⟨e, h.symm⟩
  · rw [if_neg e] at h; exact .inr ⟨e, h⟩
theorem new_κ' {E : Env} {c g b x : Nat} {k : Option Nat} (h : (E.new c g k).κ b = some x) : b = c ∨ E.κ b = some x := by
  have h : (if b = c then k else E.κ b) = some x := h
  by_cases e : b = c
  · exact .inl e
  · rw [if_neg e] at h; exact .inr h
theorem agree0 {G : List Nat} {Hf : Nat → Option Ob} (h : Wr w0 E Hf w) (hG : ∀ g ∈ G, w0.heap.size ≤ g) (ha : Agree G w w') : Agree [] w0 w' :=
  ⟨ha.os.trans h.agree.os, ha.tape.trans h.agree.tape, ha.output.trans h.agree.output, Nat.le_trans h.agree.size ha.size, fun b hb _ => by
    rw [ha.frame b (Nat.lt_of_lt_of_le hb h.agree.size) (fun hm => by have := hG b hm; omega)]
    exact h.agree.frame b hb (by simp)⟩
/-- A block that is new. -/
theorem nx_new (h : Wr w0 E H.get w) (f1 : E.ν c = none) (f2 : E.κ c = none) {g : Nat} {k : Option Nat} {ob : Ob} {obj : Obj} (ha : Agree [] w w') (hg : w.heap.size ≤ g) (hh : w'.heap[g]? = some obj) (ho : OR (E.new c g k) ob obj) (wl : List Nat) : Nx w0 E H.get c w (E.new c g k) (H.put c (some ob)).get (Nat.succ c) wl w' := by
  have hx := ext_new f1 f2 g k
  have hlt : g < w'.heap.size := (Array.getElem?_eq_some_iff.1 hh).1
  have live : ∀ b, (H.put c (some ob)).get b ≠ none → b = c ∨ (b ≠ c ∧ H.get b ≠ none) := fun b hb => by
    by_cases e : b = c
    · exact .inl e
    · rw [PT.put_other _ _ e] at hb; exact .inr ⟨e, hb⟩
  refine ⟨hx, ⟨agree0 h (by simp) ha, fun b o hb => ?_, fun b g' hb => ?_, fun b b' g' hb hb' h1 h2 => ?_⟩, ha.size, fun b x hb => ?_, fun i k' hi => ?_, fun x hx' _ => ha.frame x hx' (by simp), fun b hb hr => ?_, fun b hb => ?_⟩
  · by_cases e : b = c
    · subst e
      rw [PT.put_same] at hb
      injection hb with hb
      subst hb
      exact ⟨g, obj, new_ν E _ g k, hh, ho⟩
    · rw [PT.put_other _ _ e] at hb
      obtain ⟨g', obj', h1, h2, h3⟩ := h.lr b o hb
      exact ⟨g', obj', hx.ν _ _ h1, (ha.frame g' (Array.getElem?_eq_some_iff.1 h2).1 (by simp)).trans h2, h3.mono hx⟩
  · have := h.agree.size
    have hsz := ha.size
    rcases new_ν' hb with ⟨_, e⟩ | ⟨_, e⟩
    · exact ⟨by omega, by omega⟩
    · have := h.own b g' e
      exact ⟨by omega, by omega⟩
  · rcases new_ν' h1 with ⟨p, p2⟩ | ⟨p, p2⟩ <;> rcases new_ν' h2 with ⟨q, q2⟩ | ⟨q, q2⟩
    · rw [p, q]
    · have := (h.own b' g' q2).2; omega
    · have := (h.own b g' p2).2; omega
    · rcases live b hb with e | ⟨_, e⟩
      · exact absurd e p
      · rcases live b' hb' with e' | ⟨_, e'⟩
        · exact absurd e' q
        · exact h.inj b b' g' e e' p2 q2
  · rcases new_ν' hb with ⟨e, e2⟩ | ⟨_, e⟩
    · exact .inr ⟨by omega, by omega, .inl (by omega)⟩
    · exact .inl e
  · rcases new_κ' hi with e | e
    · exact .inr ⟨by omega, by omega⟩
    · exact .inl e
  · exact PT.put_other _ _ (by omega)
  · rcases live b hb with e | ⟨_, e⟩
    · exact .inr ⟨by omega, by omega⟩
    · exact .inl e
/-- A block that is turned. -/
theorem nx_set (h : Wr w0 E H.get w) {b g : Nat} {o ob : Ob} {obj : Obj} (hb : H.get b = some o) (hg : E.ν b = some g) (ha : Agree [g] w w') (hh : w'.heap[g]? = some obj) (ho : OR E ob obj) (wl : List Nat) : Nx w0 E H.get c w E (H.put b (some ob)).get c (ins b wl) w' := by
  have hown := h.own b g hg
  have live : ∀ b', (H.put b (some ob)).get b' ≠ none → H.get b' ≠ none := fun b' hb' => by
    by_cases e : b' = b
    · subst e; rw [hb]; simp
    · rwa [PT.put_other _ _ e] at hb'
  have other : ∀ b' g' o', H.get b' = some o' → E.ν b' = some g' → b' ≠ b → w'.heap[g']? = w.heap[g']? := fun b' g' o' hb' hg' hne =>
    ha.frame g' (h.own b' g' hg').2 (fun hm => hne (h.inj b' b g' (by rw [hb']; simp) (by rw [hb]; simp) hg' (by rw [List.mem_singleton.1 hm]; exact hg)))
  refine ⟨Ext.refl E, ⟨agree0 h (fun x hx => by rw [List.mem_singleton.1 hx]; exact hown.1) ha, fun b' o' hb' => ?_, fun b' g' hb' => ?_, fun b1 b2 g' h1 h2 => h.inj b1 b2 g' (live b1 h1) (live b2 h2)⟩, ha.size, fun _ _ h => .inl h, fun _ _ h => .inl h, fun x hx hn => ?_, fun b' hb' _ => ?_, fun b' hb' => .inl (live b' hb')⟩
  · by_cases e : b' = b
    · subst e
      rw [PT.put_same] at hb'
      injection hb' with hb'
      subst hb'
      exact ⟨g, obj, hg, hh, ho⟩
    · rw [PT.put_other _ _ e] at hb'
      obtain ⟨g', obj', h1, h2, h3⟩ := h.lr b' o' hb'
      exact ⟨g', obj', h1, (other b' g' o' hb' h1 e).trans h2, h3⟩
  · have := h.own b' g' hb'
    have := ha.size
    exact ⟨by omega, by omega⟩
  · exact ha.frame x hx (fun hm => hn b mem_ins (by rw [hb]; simp) (by rw [List.mem_singleton.1 hm]; exact hg))
  · exact PT.put_other _ _ (fun e => hb' (by rw [e]; exact mem_ins))
/-- A row that grew: where it lies nobody asks. -/
theorem nx_app (h : Wr w0 E H.get w) (f1 : E.ν c = none) (f2 : E.κ c = none) {b g g' : Nat} {o ob : Ob} {obj : Obj} {k : Option Nat} (hb : H.get b = some o) (hg : E.ν b = some g) (ha : Agree [g] w w') (hg' : g' = g ∨ w.heap.size ≤ g') (hh : w'.heap[g']? = some obj) (ho : OR (E.new c g' k) ob obj) (wl : List Nat) : Nx w0 E H.get c w (E.new c g' k) ((H.put b none).put c (some ob)).get (Nat.succ c) (ins b wl) w' := by
  have hx := ext_new f1 f2 g' k
  have hown := h.own b g hg
  have hlt : g' < w'.heap.size := (Array.getElem?_eq_some_iff.1 hh).1
  have hbc : b ≠ c := by rintro rfl; rw [f1] at hg; cases hg
  have live : ∀ b', ((H.put b none).put c (some ob)).get b' ≠ none → b' = c ∨ (b' ≠ c ∧ b' ≠ b ∧ H.get b' ≠ none) := fun b' hb' => by
    by_cases e : b' = c
    · exact .inl e
    · rw [PT.put_other _ _ e] at hb'
      by_cases e2 : b' = b
      · subst e2; rw [PT.put_same] at hb'; exact absurd rfl hb'
      · rw [PT.put_other _ _ e2] at hb'; exact .inr ⟨e, e2, hb'⟩
  have notg : ∀ b' x, H.get b' ≠ none → E.ν b' = some x → b' ≠ b → x ≠ g := fun b' x h1 h2 hne e => hne (h.inj b' b x h1 (by rw [hb]; simp) h2 (by rw [e]; exact hg))
  have other : ∀ b' x, H.get b' ≠ none → E.ν b' = some x → b' ≠ b → w'.heap[x]? = w.heap[x]? := fun b' x h1 h2 hne =>
    ha.frame x (h.own b' x h2).2 (fun hm => notg b' x h1 h2 hne (List.mem_singleton.1 hm))
  have notg' : ∀ b' x, H.get b' ≠ none → E.ν b' = some x → b' ≠ b → x ≠ g' := fun b' x h1 h2 hne e => by
    have := (h.own b' x h2).2
    rcases hg' with h3 | h3
    · exact notg b' x h1 h2 hne (e.trans h3)
    · omega
  refine ⟨hx, ⟨agree0 h (fun x hx => by rw [List.mem_singleton.1 hx]; exact hown.1) ha, fun b' o' hb' => ?_, fun b' x hb' => ?_, fun b1 b2 x h1 h2 e1 e2 => ?_⟩, ha.size, fun b' x hb' => ?_, fun i k' hi => ?_, fun x hx' hn => ?_, fun b' hb' hr => ?_, fun b' hb' => ?_⟩
  · by_cases e : b' = c
    · subst e
      rw [PT.put_same] at hb'
      injection hb' with hb'
      subst hb'
      exact ⟨g', obj, new_ν E _ g' k, hh, ho⟩
    · rw [PT.put_other _ _ e] at hb'
      by_cases e2 : b' = b
      · subst e2; rw [PT.put_same] at hb'; cases hb'
      · rw [PT.put_other _ _ e2] at hb'
        obtain ⟨x, obj', h1, h2, h3⟩ := h.lr b' o' hb'
        exact ⟨x, obj', hx.ν _ _ h1, (other b' x (by rw [hb']; simp) h1 e2).trans h2, h3.mono hx⟩
  · have := ha.size
    have hs := h.agree.size
    rcases new_ν' hb' with ⟨_, e⟩ | ⟨_, e⟩
    · rcases hg' with h3 | h3
      · exact ⟨by omega, by omega⟩
      · exact ⟨by omega, by omega⟩
    · have := h.own b' x e
      exact ⟨by omega, by omega⟩
  · rcases new_ν' e1 with ⟨p, p2⟩ | ⟨p, p2⟩ <;> rcases new_ν' e2 with ⟨q, q2⟩ | ⟨q, q2⟩
    · rw [p, q]
    · rcases live b2 h2 with e | ⟨_, e, e'⟩
      · exact absurd e q
      · exact absurd p2 (notg' b2 x e' q2 e)
    · rcases live b1 h1 with e | ⟨_, e, e'⟩
      · exact absurd e p
      · exact absurd q2 (notg' b1 x e' p2 e)
    · rcases live b1 h1 with e | ⟨_, e, e'⟩
      · exact absurd e p
      · rcases live b2 h2 with r | ⟨_, r, r'⟩
        · exact absurd r q
        · exact h.inj b1 b2 x e' r' p2 q2
  · rcases new_ν' hb' with ⟨e, e2⟩ | ⟨_, e⟩
    · refine .inr ⟨by omega, by omega, ?_⟩
      rcases hg' with h3 | h3
      · exact .inr ⟨b, mem_ins, by rw [hb]; simp, by rw [hg, e2, h3]⟩
      · exact .inl (by omega)
    · exact .inl e
  · rcases new_κ' hi with e | e
    · exact .inr ⟨by omega, by omega⟩
    · exact .inl e
  · exact ha.frame x hx' (fun hm => hn b mem_ins (by rw [hb]; simp) (by rw [List.mem_singleton.1 hm]; exact hg))
  · have hne : b' ≠ b := fun e => hb' (by rw [e]; exact mem_ins)
    rw [PT.put_other _ _ (by omega), PT.put_other _ _ hne]
  · rcases live b' hb' with e | ⟨_, _, e⟩
    · exact .inr ⟨by omega, by omega⟩
    · exact .inl e
end
end Go.Run
