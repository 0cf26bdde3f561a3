/-
Operations in whatever order: what a run keeps of them is so.
-/
import Derived.Test.YtlipgpeninlcdaaGreatZ14
namespace Go.Run
open Go.Eng
set_option linter.unusedVariables false
set_option linter.unusedSimpArgs false
theorem isD_eq (x : Rec) (r : List Rec) (t : Nat) : isD (x :: r) t = match x.dst with
    | some d => (match Nat.beq d t with | true => true | false => isD r t)
    | none => isD r t := by
  show Option.rec (motive := fun _ => Bool) (isD r t) (fun d => Bool.rec (motive := fun _ => Bool) (isD r t) true (Nat.beq d t)) x.dst = _
  cases x.dst with
  | none => rfl
  | some d => show Bool.rec (motive := fun _ => Bool) (isD r t) true (Nat.beq d t) = _; dsimp only; cases Nat.beq d t <;> rfl
theorem outs_eq (x : Rec) (r : List Rec) (j a : Nat) : outs (x :: r) (Nat.succ j) a = match Nat.beq (Nat.land (Nat.shiftRight a j) 1) 1 with
    | true => outs r j a
    | false => x :: outs r j a := by
  show Bool.rec (motive := fun _ => List Rec) (x :: outs r j a) (outs r j a) (Nat.beq (Nat.land (Nat.shiftRight a j) 1) 1) = _
  cases Nat.beq (Nat.land (Nat.shiftRight a j) 1) 1 <;> rfl
theorem bit_iff {a i : Nat} : bit a i ↔ a.testBit i = true := by
  unfold bit Nat.testBit
  show (a >>> i) &&& 1 = 1 ↔ _
  rw [Nat.and_comm (a >>> i) 1, Nat.one_and_eq_mod_two, bne_iff_ne]
  omega
theorem bit_lor {a b i : Nat} : bit (Nat.lor a b) i ↔ bit a i ∨ bit b i := by
  rw [bit_iff, bit_iff, bit_iff]
  show (a ||| b).testBit i = true ↔ _
  rw [Nat.testBit_or, Bool.or_eq_true]
theorem bit_one {k i : Nat} : bit (Nat.shiftLeft 1 k) i ↔ i = k := by
  rw [bit_iff]
  show (1 <<< k).testBit i = true ↔ _
  rw [Nat.one_shiftLeft, Nat.testBit_two_pow]
  simp [eq_comm]
theorem bit_zero {i : Nat} : ¬ bit 0 i := by
  rw [bit_iff]; simp
theorem nth_at : ∀ {es : List En} {i : Nat}, i < es.length → nth (es.map (·.r)) (es.length - 1 - i) = (atI es i).map (·.r)
  | [], i, h => by simp at h
  | e :: r, i, h => by
    unfold atI
    by_cases hi : i = r.length
    · rw [if_pos hi, hi]
      simp; rfl
    · rw [if_neg hi]
      have hlt : i < r.length := by simp at h; omega
      have : (e :: r).length - 1 - i = (r.length - 1 - i) + 1 := by simp; omega
      rw [this]
      show nth (r.map (·.r)) (r.length - 1 - i) = _
      exact nth_at hlt
theorem preM_ok {es : List En} : ∀ {l : List Edge} {a pre : Nat}, preM (es.map (·.r)) es.length l a = some pre →
    (∀ i, bit pre i → bit a i ∨ ∃ x ∈ l, Region.binds .any x = true ∧ (i = x.on ∨ ∃ e', atI es x.on = some e' ∧ bit e'.r.pre i)) ∧ ∀ x ∈ l, Region.binds .any x = true → x.on < es.length
  | [], a, pre, h => by
    cases h
    exact ⟨fun i hi => .inl hi, fun x hx => by cases hx⟩
  | x :: r, a, pre, h => by
    unfold preM at h
    split at h
    · rename_i hb
      obtain ⟨h1, h2⟩ := preM_ok h
      refine ⟨fun i hi => (h1 i hi).imp id (fun ⟨y, hy, h⟩ => ⟨y, List.mem_cons_of_mem _ hy, h⟩), fun y hy hby => ?_⟩
      rcases List.mem_cons.1 hy with rfl | hy
      · rw [hb] at hby; cases hby
      · exact h2 y hy hby
    · rename_i hb
      split at h <;> first | (cases h; done) | skip
      rename_i rc hn hlt
      have hlt : x.on < es.length := Nat.le_of_ble_eq_true hlt
      have hn : nth (es.map (·.r)) (es.length - 1 - x.on) = some rc := hn
      rw [nth_at hlt] at hn
      obtain ⟨e', he', rfl⟩ := Option.map_eq_some_iff.1 hn
      obtain ⟨h1, h2⟩ := preM_ok h
      refine ⟨fun i hi => ?_, fun y hy hby => ?_⟩
      · rcases h1 i hi with h3 | ⟨y, hy, h3⟩
        · rcases bit_lor.1 h3 with h4 | h4
          · exact .inl h4
          · rcases bit_lor.1 h4 with h5 | h5
            · exact .inr ⟨x, List.mem_cons_self, hb, .inl (bit_one.1 h5)⟩
            · exact .inr ⟨x, List.mem_cons_self, hb, .inr ⟨e', he', h5⟩⟩
        · exact .inr ⟨y, List.mem_cons_of_mem _ hy, h3⟩
      · rcases List.mem_cons.1 hy with rfl | hy
        · exact hlt
        · exact h2 y hy hby
theorem outs_ok {a : Nat} : ∀ {es : List En} {i : Nat} {e : En}, atI es i = some e → ¬ bit a i → e.r ∈ outs (es.map (·.r)) es.length a
  | [], i, e, h, _ => by cases h
  | e0 :: r, i, e, h, hb => by
    unfold atI at h
    have go : atI r i = some e → e.r ∈ outs ((e0 :: r).map (·.r)) (e0 :: r).length a := fun h => by
      have ih := outs_ok h hb
      show e.r ∈ outs (e0.r :: r.map (·.r)) (Nat.succ r.length) a
      rw [outs_eq]
      split
      · exact ih
      · exact List.mem_cons_of_mem _ ih
    split at h
    · rename_i hi
      cases h
      show e0.r ∈ outs (e0.r :: r.map (·.r)) (Nat.succ r.length) a
      rw [outs_eq]
      rw [show Nat.beq (Nat.land (Nat.shiftRight a r.length) 1) 1 = false from beq_f.2 (fun h => hb (by rw [hi]; exact h))]
      exact List.mem_cons_self
    · exact go h
theorem isD_ok : ∀ {rs : List Rec} {t : Nat}, isD rs t = false → ∀ x ∈ rs, x.dst ≠ some t
  | [], t, h, x, hx => by cases hx
  | y :: r, t, h, x, hx => by
    rw [isD_eq] at h
    split at h
    · rename_i d hd
      split at h <;> first | (cases h; done) | skip
      rename_i hn
      rcases List.mem_cons.1 hx with rfl | hx
      · rw [hd]; intro e; injection e with e; exact beq_f.1 hn e
      · exact isD_ok h x hx
    · rename_i hd
      rcases List.mem_cons.1 hx with rfl | hx
      · rw [hd]; simp
      · exact isD_ok h x hx
theorem maskF_ok {us : List Rec} {F : Fm} : ∀ {ts : List Nat} {G : Fm} {t : Nat} {v : V}, (maskF us F ts G).get t = some v → G.get t = some v ∨ (F.get t = some v ∧ ∀ x ∈ us, x.dst ≠ some t)
  | [], G, t, v, h => .inl h
  | s :: r, G, t, v, h => by
    unfold maskF at h
    split at h
    · exact maskF_ok h
    · rename_i hd
      rcases maskF_ok h with h1 | h1
      · by_cases e : t = s
        · subst e
          rw [Fm.put_same] at h1
          exact .inr ⟨h1, isD_ok hd⟩
        · rw [Fm.put_other _ _ e] at h1
          exact .inl h1
      · exact .inr h1
theorem delL_ok : ∀ {l : List Nat} {H : PT Ob} {b : Nat} {o : Ob}, (delL H l).get b = some o → H.get b = some o ∧ b ∉ l
  | [], H, b, o, h => ⟨h, by simp⟩
  | x :: r, H, b, o, h => by
    obtain ⟨h1, h2⟩ := delL_ok (l := r) h
    by_cases e : b = x
    · subst e; rw [PT.put_same] at h1; cases h1
    · rw [PT.put_other _ _ e] at h1
      exact ⟨h1, by simp [e, h2]⟩
theorem delR_ok : ∀ {k c : Nat} {H : PT Ob} {b : Nat} {o : Ob}, (delR H k c).get b = some o → H.get b = some o ∧ ¬ (c ≤ b ∧ b < c + k)
  | 0, c, H, b, o, h => ⟨h, by omega⟩
  | k + 1, c, H, b, o, h => by
    have h : (delR (H.put c none) k (c + 1)).get b = some o := h
    obtain ⟨h1, h2⟩ := delR_ok h
    by_cases e : b = c
    · subst e; rw [PT.put_same] at h1; cases h1
    · rw [PT.put_other _ _ e] at h1
      exact ⟨h1, by omega⟩
theorem maskH_ok : ∀ {us : List Rec} {H : PT Ob} {b : Nat} {o : Ob}, (∀ x ∈ us, x.c ≤ x.c') → (maskH us H).get b = some o → H.get b = some o ∧ ∀ x ∈ us, ¬ Tch x b
  | [], H, b, o, _, h => ⟨h, by simp⟩
  | x :: r, H, b, o, hc, h => by
    obtain ⟨h1, h2⟩ := maskH_ok (us := r) (fun y hy => hc y (List.mem_cons_of_mem _ hy)) h
    obtain ⟨h3, h4⟩ := delR_ok h1
    obtain ⟨h5, h6⟩ := delL_ok h3
    have hx := hc x List.mem_cons_self
    refine ⟨h5, fun y hy => ?_⟩
    rcases List.mem_cons.1 hy with rfl | hy
    · rintro (h7 | h7)
      · exact h6 h7
      · refine h4 ⟨h7.1, ?_⟩
        show b < y.c + (y.c' - y.c)
        omega
    · exact h2 y hy
theorem full_ok {us : List Rec} {op : Op} (h : full us op = true) : us = [] := by
  unfold full at h
  split at h
  · rfl
  · cases h
theorem maskM_ok {us : List Rec} {F : Fm} {H : PT Ob} {op : Op} {b : Nat} {o : Ob} (hc : ∀ x ∈ us, x.c ≤ x.c') (h : (maskM us F H op).get b = some o) : H.get b = some o ∧ ∀ x ∈ us, ¬ Tch x b := by
  unfold maskM at h
  split at h
  · rename_i hf
    rw [full_ok hf]
    exact ⟨h, by simp⟩
  · split at h
    · rw [PT.get_e] at h; cases h
    · split at h
      · split at h
        · rename_i b' off _
          by_cases e : b = b'
          · subst e
            rw [PT.put_same] at h
            exact maskH_ok hc h
          · rw [PT.put_other _ _ e, PT.get_e] at h; cases h
        · rw [PT.get_e] at h; cases h
      · exact maskH_ok hc h
theorem cpL_ok {K : PT Ob} : ∀ {l : List Nat} {H : PT Ob} {b : Nat}, (cpL K H l).get b = if b ∈ l then K.get b else H.get b
  | [], H, b => by simp [cpL]
  | x :: r, H, b => by
    show (cpL K (H.put x (K.get x)) r).get b = _
    rw [cpL_ok]
    by_cases e : b = x
    · subst e; rw [PT.put_same]; simp
    · rw [PT.put_other _ _ e]; simp [e]
theorem cpR_ok {K : PT Ob} : ∀ {k c : Nat} {H : PT Ob} {b : Nat}, (cpR K H k c).get b = if c ≤ b ∧ b < c + k then K.get b else H.get b
  | 0, c, H, b => by
    rw [if_neg (by omega)]; rfl
  | k + 1, c, H, b => by
    show (cpR K (H.put c (K.get c)) k (c + 1)).get b = _
    rw [cpR_ok]
    by_cases e : b = c
    · subst e
      rw [PT.put_same, if_pos (by omega : b ≤ b ∧ b < b + (k + 1))]
      split <;> rfl
    · rw [PT.put_other _ _ e]
      by_cases h : c + 1 ≤ b ∧ b < c + 1 + k
      · rw [if_pos h, if_pos (by omega)]
      · rw [if_neg h, if_neg (by omega)]
theorem merge_ok {fl : Bool} {H K : PT Ob} {r : Rec} {c : Nat} (hc : c ≤ r.c') (hr : r.c = c) (hs : fl = true → ∀ b, ¬ Tch r b → K.get b = H.get b) (b : Nat) : (merge fl H K r.wl c r.c').get b = if Tch r b then K.get b else H.get b := by
  unfold merge
  split
  · split
    · rfl
    · exact hs rfl b ‹_›
  · rw [cpR_ok, cpL_ok]
    subst hr
    by_cases h1 : r.c ≤ b ∧ b < r.c'
    · rw [if_pos (⟨h1.1, by show b < r.c + (r.c' - r.c); omega⟩), if_pos (show Tch r b from .inr h1)]
    · rw [if_neg (fun h => h1 ⟨h.1, by have : b < r.c + (r.c' - r.c) := h.2; omega⟩)]
      by_cases h2 : b ∈ r.wl
      · rw [if_pos h2, if_pos (show Tch r b from .inl h2)]
      · rw [if_neg h2, if_neg (show ¬ Tch r b by rintro (h | h) <;> contradiction)]
theorem anyB_ok {H : PT Ob} : ∀ {l : List Nat}, anyB H l = false → ∀ b ∈ l, H.get b = none
  | [], h, b, hb => by cases hb
  | x :: r, h, b, hb => by
    unfold anyB at h
    split at h <;> first | (cases h; done) | skip
    rename_i hx
    rcases List.mem_cons.1 hb with rfl | hb
    · unfold hasB at hx
      split at hx
      · cases hx
      · assumption
    · exact anyB_ok h b hb
theorem clash_ok : ∀ {us : List Rec} {wl : List Nat}, clash us wl = false → ∀ x ∈ us, ∀ b ∈ wl, x.H.get b = none
  | [], wl, h, x, hx => by cases hx
  | y :: r, wl, h, x, hx => by
    unfold clash at h
    split at h <;> first | (cases h; done) | skip
    rename_i hy
    rcases List.mem_cons.1 hx with rfl | hx
    · exact anyB_ok hy
    · exact clash_ok h x hx
theorem clean_ok : ∀ {l : List Oper} {F : Fm}, (∀ t v, (clean l F).get t = some v → F.get t = some v) ∧ ∀ o ∈ l, ∀ t, o.dst = some t → (clean l F).get t = none
  | [], F => ⟨fun t v h => h, fun o ho => by cases ho⟩
  | o :: r, F => by
    unfold clean
    split
    · rename_i d hd
      obtain ⟨h1, h2⟩ := clean_ok (l := r) (F := F.put d none)
      refine ⟨fun t v h => ?_, fun o' ho' t ht => ?_⟩
      · have := h1 t v h
        by_cases e : t = d
        · subst e; rw [Fm.put_same] at this; cases this
        · rw [Fm.put_other _ _ e] at this; exact this
      · rcases List.mem_cons.1 ho' with rfl | ho'
        · rw [hd] at ht
          injection ht with ht
          subst ht
          cases e : (clean r (F.put d none)).get d with
          | none => rfl
          | some v =>
            have := h1 d v e
            rw [Fm.put_same] at this
            cases this
        · exact h2 o' ho' t ht
    · rename_i hd
      obtain ⟨h1, h2⟩ := clean_ok (l := r) (F := F)
      refine ⟨h1, fun o' ho' t ht => ?_⟩
      rcases List.mem_cons.1 ho' with rfl | ho'
      · rw [hd] at ht; cases ht
      · exact h2 o' ho' t ht
/-! all orders -/
theorem least : ∀ {L : List Nat}, L ≠ [] → ∃ i ∈ L, ∀ k ∈ L, i ≤ k
  | [], h => absurd rfl h
  | x :: r, h => by
    by_cases hr : r = []
    · subst hr; exact ⟨x, List.mem_cons_self, fun k hk => by simp at hk; omega⟩
    · obtain ⟨i, h1, h2⟩ := least hr
      by_cases hx : x ≤ i
      · refine ⟨x, List.mem_cons_self, fun k hk => ?_⟩
        rcases List.mem_cons.1 hk with rfl | hk
        · exact Nat.le_refl _
        · exact Nat.le_trans hx (h2 k hk)
      · refine ⟨i, List.mem_cons_of_mem _ h1, fun k hk => ?_⟩
        rcases List.mem_cons.1 hk with rfl | hk
        · omega
        · exact h2 k hk
section
variable {P : Program} {ρ : Rho} {n : Nat} {ops : Array Oper} {F0 : Nat → Option V} {H0 : Nat → Option Ob} {c0 : Nat} {wl0 : List Nat}
theorem reg_all {w0 ws : World} {E0 : Env} {es : List En} {Q : Exit → Act → World → Prop} (ht : Tr P ρ n ops F0 H0 c0 es) (hl : es.length = ops.size) (hap : Apart H0 c0 (cAt c0 es)) (hf0 : Fresh E0 c0 (cAt c0 es)) (hF0 : ∀ (i : Nat) (o : Oper) (t : Nat), ops[i]? = some o → o.dst = some t → F0 t = none)
    (hQ : ∀ E a w, Rel ρ n F0 H0 c0 wl0 w0 ws E0 es All E a w → Q .normal a w) : ∀ (fuel : Nat) (listed : Array Bool) (L : List Nat) (E : Env) (a : Act) (w : World), listed.size = ops.size → L.Nodup → L.length = fuel → (∀ i, i < ops.size → (listed.getD i true = false ↔ i ∈ L)) → (∀ i ∈ L, i < ops.size) →
      Cl es (fun i => listed.getD i true) → Rel ρ n F0 H0 c0 wl0 w0 ws E0 es (fun i => listed.getD i true) E a w → wpAny P .any ops Q fuel listed a w := by
  intro fuel
  induction fuel with
  | zero =>
    intro listed L E a w hsz hnd hlen hL hLt hc hr
    have hnil : L = [] := List.length_eq_zero_iff.1 hlen
    have hall : (fun i => listed.getD i true) = All := by
      funext i
      by_cases hi : i < ops.size
      · cases h : listed.getD i true with
        | true => rfl
        | false => have := (hL i hi).1 h; rw [hnil] at this; cases this
      · show listed.getD i true = true
        rw [Array.getD_eq_getD_getElem?, Array.getElem?_eq_none (by omega)]
        rfl
    refine ⟨?_, hQ E a w (by rw [← hall]; exact hr)⟩
    cases h : Region.ready .any ops listed with
    | nil => rfl
    | cons j r =>
      have hj : j ∈ Region.ready .any ops listed := by rw [h]; exact List.mem_cons_self
      obtain ⟨h1, o, h2, _⟩ := mem_ready.1 hj
      have := (hL j (Array.getElem?_eq_some_iff.1 h2).1).1 h1
      rw [hnil] at this
      cases this
  | succ fuel ih =>
    intro listed L E a w hsz hnd hlen hL hLt hc hr
    refine ⟨fun h0 => ?_, fun j hj => ?_⟩
    · exfalso
      obtain ⟨i, h1, h2⟩ := least (L := L) (by intro h; rw [h] at hlen; cases hlen)
      have hi := hLt i h1
      obtain ⟨e, he⟩ := atI_some (es := es) (i := i) (by omega)
      obtain ⟨r, k1, k2, k3, q, k4⟩ := ht.at_ he
      have : i ∈ Region.ready .any ops listed := by
        refine mem_ready.2 ⟨(hL i hi).2 h1, e.o, by rw [← k2]; exact k1.at_, fun x hx hb => ?_⟩
        have hlt := k1.aft x hx hb
        have hxs : x.on < listed.size := by omega
        have : listed.getD x.on true = true := by
          cases h : listed.getD x.on true with
          | true => rfl
          | false => have := h2 _ ((hL x.on (by omega)).1 h); omega
        rw [Array.getD_eq_getD_getElem?, Array.getElem?_eq_getElem hxs] at this ⊢
        exact this
      rw [h0] at this
      cases this
    · obtain ⟨hD, o, ho, hall⟩ := mem_ready.1 hj
      have hjlt := (Array.getElem?_eq_some_iff.1 ho).1
      obtain ⟨e, he⟩ := atI_some (es := es) (i := j) (by omega)
      obtain ⟨r, k1, k2, k3, q, k4⟩ := ht.at_ he
      have heo : e.o = o := by
        have := k1.at_
        rw [k2, ho] at this
        injection this with this
        exact this.symm
      have hset : (fun i => (listed.setIfInBounds j true).getD i true) = add (fun i => listed.getD i true) j := by
        funext i
        show _ = if i = j then true else listed.getD i true
        by_cases hij : i = j
        · rw [if_pos hij, hij, Array.getD_eq_getD_getElem?, Array.getElem?_setIfInBounds_self_of_lt (by omega)]; rfl
        · rw [if_neg hij, Array.getD_eq_getD_getElem?, Array.getElem?_setIfInBounds_ne (fun h => hij h.symm), ← Array.getD_eq_getD_getElem?]
      have hpre : ∀ i, bit e.r.pre i → listed.getD i true = true := by
        intro i hi
        obtain ⟨hlt, x, hx, hb, h⟩ := k1.pre i hi
        rw [heo] at hx
        have h1 := hall x hx hb
        have hxl : listed.getD x.on true = true := by
          rw [Array.getD_eq_getD_getElem?] at h1 ⊢
          cases h2 : listed[x.on]? with
          | none => rfl
          | some y => rw [h2] at h1; exact h1
        rcases h with rfl | ⟨e', h3, h4⟩
        · exact hxl
        · refine hc x.on e' ?_ hxl i h4
          rw [k4]
          rw [atI_app (by have := atI_lt h3; simp; omega)]
          exact atI_cons h3
      refine hr.step ht hap hf0 hF0 hc he hD hpre (fun E' a' w' hr' => ?_)
      refine ih _ (L.erase j) E' a' w' (by simp [hsz]) (hnd.erase j) ?_ (fun i hi => ?_) (fun i hi => hLt i (List.mem_of_mem_erase hi)) ?_ (by rw [hset]; exact hr')
      · rw [List.length_erase_of_mem ((hL j hjlt).1 hD), hlen]; rfl
      · rw [hnd.mem_erase_iff]
        have := congrFun hset i
        rw [show (listed.setIfInBounds j true).getD i true = add (fun i => listed.getD i true) j i from this]
        show (if i = j then true else listed.getD i true) = false ↔ _
        by_cases hij : i = j
        · simp [hij]
        · rw [if_neg hij, hL i hi]; simp [hij]
      · rw [hset]
        intro k ek hk hDk i hi
        show (if i = j then true else listed.getD i true) = true
        by_cases hij : i = j
        · rw [if_pos hij]
        · rw [if_neg hij]
          by_cases hkj : k = j
          · subst hkj
            rw [he] at hk
            injection hk with hk
            subst hk
            exact hpre i hi
          · have hDk : (if k = j then true else listed.getD k true) = true := hDk
            rw [if_neg hkj] at hDk
            exact hc k ek hk hDk i hi
end
end Go.Run
