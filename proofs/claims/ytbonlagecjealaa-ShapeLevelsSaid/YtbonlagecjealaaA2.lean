/-
Own text, put together by an own program (shake.py) out of this claim's texts: what its theorem needs of them.
-/
import Derived.Test.YtbonlagecjealaaA1
namespace Go.Run
open Go.Eng
set_option linter.unusedVariables false
set_option linter.unusedSimpArgs false
def PC (ρ : Rho) (pc : List (X × Bool)) : Prop := ∀ p ∈ pc, (p.1.den ρ).b = p.2
theorem PC.cons {ρ : Rho} {pc : List (X × Bool)} {x : X} {b : Bool} (h : PC ρ pc) (hx : (x.den ρ).b = b) : PC ρ ((x, b) :: pc) := fun p hp => by
  rcases List.mem_cons.1 hp with rfl | hp
  · exact hx
  · exact h p hp
theorem pcf_ok {ρ : Rho} : ∀ {pc : List (X × Bool)} {x : X} {b : Bool}, PC ρ pc → pcf pc x = some b → (x.den ρ).b = b
  | [], x, b, _, h => by cases h
  | (y, q) :: r, x, b, hp, h => by
    unfold pcf at h
    split at h
    · rename_i hs
      cases h
      rw [← X.same_ok hs]
      exact hp (y, q) List.mem_cons_self
    · exact pcf_ok (fun p hm => hp p (List.mem_cons_of_mem _ hm)) h
theorem joinO_ok {a b : Option Lv} {l : Lv} (h : joinO a b = some l) : ∃ x y, a = some x ∧ b = some y ∧ l = x ++ y := by
  unfold joinO at h
  split at h <;> first | (cases h; done) | skip
  cases h
  exact ⟨_, _, rfl, rfl, ap_eq _ _⟩
theorem dec0_ok {ρ : Rho} {pc : List (X × Bool)} {x : X} {k : Bool → List (X × Bool) → Option Lv} {rs : Lv} (h : dec0 pc x k = some rs) (hp : PC ρ pc) : ∃ pc' rs', k (x.den ρ).b pc' = some rs' ∧ PC ρ pc' ∧ ∀ l ∈ rs', l ∈ rs := by
  unfold dec0 at h
  split at h
  · rename_i b hb
    rw [← pcf_ok hp hb] at h
    exact ⟨pc, rs, h, hp, fun l hl => hl⟩
  · obtain ⟨a, b, h1, h2, rfl⟩ := joinO_ok h
    cases hx : (x.den ρ).b with
    | true => exact ⟨_, a, h1, hp.cons hx, fun l hl => List.mem_append_left _ hl⟩
    | false => exact ⟨_, b, h2, hp.cons hx, fun l hl => List.mem_append_right _ hl⟩
theorem dec_ok {ρ : Rho} {pc : List (X × Bool)} {x : X} {k : Bool → List (X × Bool) → Option Lv} {rs : Lv} (h : dec pc x k = some rs) (hp : PC ρ pc) : ∃ pc' rs', k (x.den ρ).b pc' = some rs' ∧ PC ρ pc' ∧ ∀ l ∈ rs', l ∈ rs := by
  unfold dec at h
  split at h
  · exact ⟨pc, rs, h, hp, fun l hl => hl⟩
  · obtain ⟨pc', rs', h1, h2, h3⟩ := dec0_ok h hp
    exact ⟨pc', rs', h1, h2, h3⟩
  · exact dec0_ok h hp
structure Sta (m m' : Mm) : Prop where
  le : m.c ≤ m'.c
  wl : ∀ b ∈ m.wl, b ∈ m'.wl
  wlive : ∀ b ∈ m'.wl, b ∈ m.wl ∨ m.H.get b ≠ none ∨ (m.c ≤ b ∧ b < m'.c)
  live : ∀ b, m'.H.get b ≠ none → m.H.get b ≠ none ∨ (m.c ≤ b ∧ b < m'.c)
  same : ∀ b, b ∉ m'.wl → (b < m.c ∨ m'.c ≤ b) → m'.H.get b = m.H.get b
theorem Sta.refl (m : Mm) : Sta m m := ⟨Nat.le_refl _, fun _ h => h, fun _ h => .inl h, fun _ h => .inl h, fun _ _ _ => rfl⟩
theorem Sta.wpc (m : Mm) (pc : List (X × Bool)) : Sta m (m.wpc pc) := ⟨Nat.le_refl _, fun _ h => h, fun _ h => .inl h, fun _ h => .inl h, fun _ _ _ => rfl⟩
theorem Sta.trans {a b c : Mm} (h : Sta a b) (k : Sta b c) : Sta a c := by
  have h1 := h.le
  have h2 := k.le
  refine ⟨Nat.le_trans h1 h2, fun x hx => k.wl x (h.wl x hx), fun x hx => ?_, fun x hx => ?_, fun x hx hr => ?_⟩
  · rcases k.wlive x hx with h3 | h3 | ⟨h3, h4⟩
    · rcases h.wlive x h3 with h5 | h5 | ⟨h5, h6⟩
      · exact .inl h5
      · exact .inr (.inl h5)
      · exact .inr (.inr ⟨h5, by omega⟩)
    · rcases h.live x h3 with h5 | ⟨h5, h6⟩
      · exact .inr (.inl h5)
      · exact .inr (.inr ⟨h5, by omega⟩)
    · exact .inr (.inr ⟨by omega, h4⟩)
  · rcases k.live x hx with h3 | ⟨h3, h4⟩
    · rcases h.live x h3 with h5 | ⟨h5, h6⟩
      · exact .inl h5
      · exact .inr ⟨h5, by omega⟩
    · exact .inr ⟨by omega, h4⟩
  · exact (k.same x hx (by omega)).trans (h.same x (fun hm => hx (k.wl x hm)) (by omega))
theorem Sta.new (m : Mm) (o : Ob) : Sta m (m.new o) := by
  refine ⟨Nat.le_succ _, fun _ h => h, fun _ h => .inl h, fun x hx => ?_, fun x hx hr => ?_⟩
  · by_cases e : x = m.c
    · exact .inr ⟨by omega, by show x < Nat.succ m.c; omega⟩
    · have hx : (m.H.put m.c (some o)).get x ≠ none := hx
      rw [PT.put_other _ _ e] at hx
      exact .inl hx
  · have : x ≠ m.c := by
      rcases hr with h | h
      · omega
      · have h : Nat.succ m.c ≤ x := h
        omega
    exact PT.put_other _ _ this
theorem Sta.set {m : Mm} {b : Nat} {o : Ob} (o' : Ob) (hb : m.H.get b = some o) : Sta m (m.set b o') := by
  refine ⟨Nat.le_refl _, fun _ h => ins_iff.2 (.inr h), fun x hx => ?_, fun x hx => ?_, fun x hx hr => ?_⟩
  · rcases ins_iff.1 hx with rfl | hx
    · exact .inr (.inl (by rw [hb]; simp))
    · exact .inl hx
  · by_cases e : x = b
    · subst e; exact .inl (by rw [hb]; simp)
    · have hx : (m.H.put b (some o')).get x ≠ none := hx
      rw [PT.put_other _ _ e] at hx
      exact .inl hx
  · exact PT.put_other _ _ (fun e => hx (by rw [e]; exact mem_ins))
theorem Sta.app {m : Mm} {b : Nat} {o : Ob} (o' : Ob) (hb : m.H.get b = some o) : Sta m ⟨(m.H.put b none).put m.c (some o'), Nat.succ m.c, ins b m.wl, m.pc⟩ := by
  refine ⟨Nat.le_succ _, fun _ h => ins_iff.2 (.inr h), fun x hx => ?_, fun x hx => ?_, fun x hx hr => ?_⟩
  · rcases ins_iff.1 hx with rfl | hx
    · exact .inr (.inl (by rw [hb]; simp))
    · exact .inl hx
  · by_cases e : x = m.c
    · exact .inr ⟨by omega, by show x < Nat.succ m.c; omega⟩
    · have hx : ((m.H.put b none).put m.c (some o')).get x ≠ none := hx
      rw [PT.put_other _ _ e] at hx
      by_cases e2 : x = b
      · subst e2; rw [PT.put_same] at hx; exact absurd rfl hx
      · rw [PT.put_other _ _ e2] at hx; exact .inl hx
  · have h1 : x ≠ m.c := by
      rcases hr with h | h
      · omega
      · have h : Nat.succ m.c ≤ x := h
        omega
    have h2 : x ≠ b := fun e => hx (by rw [e]; exact mem_ins)
    show ((m.H.put b none).put m.c (some o')).get x = _
    rw [PT.put_other _ _ h1, PT.put_other _ _ h2]
theorem eop_sta {P : Program} {F : Fm} {M M' : Mm} {d : Option Nat} {op : Op} {v : V} (h : eop P F M d op = some (v, M')) : Sta M M' ∧ M'.pc = M.pc := by
  unfold eop at h
  split at h
  split at h
  all_goals first | (cases h; done) | (unfold r_alloc at h) | (unfold r_box at h) | (unfold r_store at h) | (unfold r_bsl at h) | (unfold r_msl at h) | (unfold r_call at h)
  all_goals repeat' (split at h <;> first | (cases h; done) | skip)
  all_goals first
    | (cases h; done)
    | (cases h; exact ⟨Sta.refl _, rfl⟩)
    | (cases h; exact ⟨Sta.new _ _, rfl⟩)
    | (cases h; exact ⟨Sta.set _ (by assumption), rfl⟩)
    | (cases h; exact ⟨Sta.app _ (by assumption), rfl⟩)
def Good (ρ : Rho) (m : Mm) (ls : Lv) (R : Ex → St → Prop) : Prop := ∃ l ∈ ls, PC ρ l.2.m.pc ∧ (l.1 = .pan ∨ (Sta m l.2.m ∧ R l.1 l.2))
theorem Good.sub {ρ : Rho} {m : Mm} {ls ls' : Lv} {R : Ex → St → Prop} (h : Good ρ m ls R) (hs : ∀ l ∈ ls, l ∈ ls') : Good ρ m ls' R := by
  obtain ⟨l, h1, h2⟩ := h
  exact ⟨l, hs l h1, h2⟩
theorem Good.one {ρ : Rho} {m : Mm} {e : Ex} {s : St} {R : Ex → St → Prop} (hp : PC ρ s.m.pc) (hs : Sta m s.m) (h : R e s) : Good ρ m [(e, s)] R := ⟨_, List.mem_singleton_self _, hp, .inr ⟨hs, h⟩⟩
theorem Good.pan {ρ : Rho} {m : Mm} {s : St} {R : Ex → St → Prop} (hp : PC ρ s.m.pc) : Good ρ m [(.pan, s)] R := ⟨_, List.mem_singleton_self _, hp, .inl rfl⟩
theorem Good.mono {ρ : Rho} {m : Mm} {ls : Lv} {R R' : Ex → St → Prop} (h : Good ρ m ls R) (hr : ∀ e s, Sta m s.m → R e s → R' e s) : Good ρ m ls R' := by
  obtain ⟨l, h1, h2, h3⟩ := h
  exact ⟨l, h1, h2, h3.imp id (fun h => ⟨h.1, hr _ _ h.1 h.2⟩)⟩
theorem Good.from {ρ : Rho} {m m' : Mm} {ls : Lv} {R : Ex → St → Prop} (h : Good ρ m' ls R) (hs : Sta m m') : Good ρ m ls R := by
  obtain ⟨l, h1, h2, h3⟩ := h
  exact ⟨l, h1, h2, h3.imp id (fun h => ⟨hs.trans h.1, h.2⟩)⟩
theorem bindL_eq (k : Ex → St → Option Lv) (e : Ex) (s : St) (r : Lv) : bindL k ((e, s) :: r) = match k e s with
    | some l => match bindL k r with | some m => some (ap l m) | none => none
    | none => none := by
  show Option.rec (motive := fun _ => Option Lv) none (fun l => Option.rec (motive := fun _ => Option Lv) none (fun m => some (ap l m)) (bindL k r)) (k e s) = _
  cases k e s with
  | none => rfl
  | some l => cases bindL k r <;> rfl
theorem bindL_mem {k : Ex → St → Option Lv} : ∀ {ls rs : Lv}, bindL k ls = some rs → ∀ l ∈ ls, ∃ r, k l.1 l.2 = some r ∧ ∀ x ∈ r, x ∈ rs
  | [], rs, h, l, hl => by cases hl
  | (e, s) :: q, rs, h, l, hl => by
    rw [bindL_eq] at h
    split at h <;> first | (cases h; done) | skip
    rename_i a ha
    split at h <;> first | (cases h; done) | skip
    rename_i b hb
    cases h
    rw [ap_eq]
    rcases List.mem_cons.1 hl with rfl | hl
    · exact ⟨a, ha, fun x hx => List.mem_append_left _ hx⟩
    · obtain ⟨r, h1, h2⟩ := bindL_mem hb l hl
      exact ⟨r, h1, fun x hx => List.mem_append_right _ (h2 x hx)⟩
theorem Good.bind {ρ : Rho} {m m' : Mm} {ls rs : Lv} {R R' : Ex → St → Prop} {k : Ex → St → Option Lv} (h : Good ρ m ls R) (hb : bindL k ls = some rs) (hp : ∀ s r, k .pan s = some r → r = [(.pan, s)]) (hk : ∀ e s r, k e s = some r → PC ρ s.m.pc → Sta m s.m → R e s → Good ρ m' r R') : Good ρ m' rs R' := by
  obtain ⟨l, h1, h2, h3⟩ := h
  obtain ⟨r, hr, hsub⟩ := bindL_mem hb l h1
  rcases h3 with h3 | ⟨h3, h4⟩
  · rw [h3] at hr
    rw [hp _ _ hr] at hsub
    exact (Good.pan h2).sub hsub
  · exact (hk _ _ _ hr h2 h3 h4).sub hsub
theorem needs_ok {ρ : Rho} {m0 : Mm} {k : Mm → Option Lv} {R : Ex → St → Prop} : ∀ {l : List X} {m : Mm} {rs : Lv}, needs m k l = some rs → PC ρ m.pc → (∀ pc rs', k (m.wpc pc) = some rs' → PC ρ pc → (∀ x ∈ l, (x.den ρ).b = true) → Good ρ m0 rs' R) → Good ρ m0 rs R
  | [], m, rs, h, hp, hk => hk m.pc rs h hp (fun x hx => by cases hx)
  | x :: r, m, rs, h, hp, hk => by
    unfold needs at h
    obtain ⟨pc', rs', h1, h2, h3⟩ := dec_ok h hp
    refine Good.sub ?_ h3
    cases hx : (x.den ρ).b with
    | true =>
      rw [hx] at h1
      refine needs_ok (m := m.wpc pc') h1 h2 (fun pc rs'' e1 e2 e3 => hk pc rs'' e1 e2 (fun y hy => ?_))
      rcases List.mem_cons.1 hy with rfl | hy
      · exact hx
      · exact e3 y hy
    | false =>
      rw [hx] at h1
      cases h1
      exact Good.pan h2
theorem forkB_ok {ρ : Rho} {m0 : Mm} {all : List Oper} {d : Option Nat} {v : V} {m : Mm} {k : V → Mm → Option Lv} {rs : Lv} {R : Ex → St → Prop} (h : forkB all d v m k = some rs) (hp : PC ρ m.pc)
    (hk : ∀ v' pc rs', k v' (m.wpc pc) = some rs' → PC ρ pc → (∀ E u, E.ρ = ρ → VR E v u → VR E v' u) → Good ρ m0 rs' R) : Good ρ m0 rs R := by
  have same : k v m = some rs → Good ρ m0 rs R := fun h => hk v m.pc rs h hp (fun _ _ _ h => h)
  unfold forkB at h
  split at h
  · exact same h
  · rename_i x hx
    split at h
    · split at h
      · obtain ⟨pc', rs', h1, h2, h3⟩ := dec_ok h hp
        refine (hk _ pc' rs' h1 h2 (fun E u e hv => ?_)).sub h3
        rw [show u = .bool (x.den E.ρ).b from hv, e]
        rfl
      · exact same h
    · exact same h
  · exact same h
end Go.Run
namespace Go.Run
open Go.Eng
set_option linter.unusedVariables false
set_option linter.unusedSimpArgs false
structure En where
  r : Rec
  o : Oper
  v : V
  F : Fm
  K : PT Ob
  on : Bool
def Tch (r : Rec) (b : Nat) : Prop := b ∈ r.wl ∨ (r.c ≤ b ∧ b < r.c')
instance (r : Rec) (b : Nat) : Decidable (Tch r b) := by unfold Tch; infer_instance
noncomputable def HD (D : Nat → Bool) (H0 : Nat → Option Ob) : List En → Nat → Option Ob
  | [], b => H0 b
  | e :: r, b => if D r.length = true ∧ Tch e.r b then e.K.get b else HD D H0 r b
noncomputable def FD (D : Nat → Bool) (F0 : Nat → Option V) : List En → Nat → Option V
  | [], t => F0 t
  | e :: r, t => if D r.length = true ∧ e.r.dst = some t then some e.v else FD D F0 r t
noncomputable def All : Nat → Bool := fun _ => true
noncomputable def atI : List En → Nat → Option En
  | [], _ => none
  | e :: r, i => if i = r.length then some e else atI r i
noncomputable def cAt (c0 : Nat) : List En → Nat
  | [] => c0
  | e :: _ => e.r.c'
noncomputable def wlAt (wl0 : List Nat) : List En → List Nat
  | [] => wl0
  | e :: r => e.r.wl ++ wlAt wl0 r
def bit (a i : Nat) : Prop := Nat.land (Nat.shiftRight a i) 1 = 1
instance (a i : Nat) : Decidable (bit a i) := by unfold bit; infer_instance
def OpS (P : Program) (ρ : Rho) (n : Nat) (F : Fm) (H : PT Ob) (c : Nat) (K : PT Ob) (c' : Nat) (wl : List Nat) (v : V) (o : Oper) : Prop :=
  ∀ (w0 : World) (E : Env) (a : Act) (w : World) (k : Act → World → Prop) (Q : Exit → Act → World → Prop), E.ρ = ρ → FA E F n a → Wr w0 E H.get w → Fresh E c c' →
    (∀ E' u w', Nx w0 E H.get c w E' K.get c' wl w' → VR E' v u → k (a.put o.dst u) w') → o.wp P a w k Q
structure EnOK (P : Program) (ρ : Rho) (n : Nat) (ops : Array Oper) (F0 : Nat → Option V) (H0 : Nat → Option Ob) (c0 : Nat) (e : En) (r : List En) : Prop where
  at_ : ops[r.length]? = some e.o
  dst : e.r.dst = e.o.dst
  dOk : dOk n e.o.dst = true
  pre : ∀ i, bit e.r.pre i → i < r.length ∧ ∃ x ∈ e.o.after, Region.binds .any x = true ∧ (i = x.on ∨ ∃ e', atI r x.on = some e' ∧ bit e'.r.pre i)
  aft : ∀ x ∈ e.o.after, Region.binds .any x = true → x.on < r.length
  fr : ∀ t v, e.F.get t = some v → FD All F0 r t = some v ∧ ∀ i e', atI r i = some e' → ¬ bit e.r.pre i → e'.r.dst ≠ some t
  hp : ∀ b ob, e.r.H.get b = some ob → HD All H0 r b = some ob ∧ ∀ i e', atI r i = some e' → ¬ bit e.r.pre i → ¬ Tch e'.r b
  cl : ∀ i e', atI r i = some e' → ¬ bit e.r.pre i → ∀ b ∈ e.r.wl, e'.r.H.get b = none
  nd : ∀ i e', atI r i = some e' → ∀ t, e.r.dst = some t → e'.r.dst ≠ some t
  c : e.r.c = cAt c0 r
  cc : e.r.c ≤ e.r.c'
  wlive : ∀ b ∈ e.r.wl, e.r.H.get b ≠ none ∨ (e.r.c ≤ b ∧ b < e.r.c')
  live : ∀ b, e.K.get b ≠ none → e.r.H.get b ≠ none ∨ (e.r.c ≤ b ∧ b < e.r.c')
  guard : gv ops.toList e.F e.o.guard = some e.on
  off : e.on = false → e.v = .und ∧ e.r.wl = [] ∧ e.r.c' = e.r.c
  sem : e.on = true → OpS P ρ n e.F e.r.H e.r.c e.K e.r.c' e.r.wl e.v e.o
inductive Tr (P : Program) (ρ : Rho) (n : Nat) (ops : Array Oper) (F0 : Nat → Option V) (H0 : Nat → Option Ob) (c0 : Nat) : List En → Prop where
  | nil : Tr P ρ n ops F0 H0 c0 []
  | cons {e : En} {r : List En} : EnOK P ρ n ops F0 H0 c0 e r → Tr P ρ n ops F0 H0 c0 r → Tr P ρ n ops F0 H0 c0 (e :: r)
section
variable {P : Program} {ρ : Rho} {n : Nat} {ops : Array Oper} {F0 : Nat → Option V} {H0 : Nat → Option Ob} {c0 : Nat} {wl0 : List Nat}
theorem atI_lt : ∀ {es : List En} {i : Nat} {e : En}, atI es i = some e → i < es.length
  | [], i, e, h => by cases h
  | e0 :: r, i, e, h => by
    unfold atI at h
    split at h
    · simp; omega
    · have := atI_lt h; simp; omega
theorem atI_some : ∀ {es : List En} {i : Nat}, i < es.length → ∃ e, atI es i = some e
  | [], i, h => by simp at h
  | e0 :: r, i, h => by
    unfold atI
    split
    · exact ⟨_, rfl⟩
    · exact atI_some (by simp at h; omega)
theorem atI_cons {e0 e : En} {r : List En} {i : Nat} (h : atI r i = some e) : atI (e0 :: r) i = some e := by
  unfold atI
  rw [if_neg (by have := atI_lt h; omega)]
  exact h
theorem Tr.at_ : ∀ {es : List En} {i : Nat} {e : En}, Tr P ρ n ops F0 H0 c0 es → atI es i = some e → ∃ r, EnOK P ρ n ops F0 H0 c0 e r ∧ r.length = i ∧ Tr P ρ n ops F0 H0 c0 r ∧ ∃ q, es = q ++ e :: r
  | [], i, e, h, hi => by cases hi
  | e0 :: r, i, e, h, hi => by
    cases h with
    | cons h1 h2 =>
      unfold atI at hi
      split at hi
      · rename_i hl
        cases hi
        exact ⟨r, h1, hl.symm, h2, [], rfl⟩
      · obtain ⟨r', k1, k2, k3, q, k4⟩ := Tr.at_ h2 hi
        exact ⟨r', k1, k2, k3, e0 :: q, by rw [k4]; rfl⟩
theorem atI_app : ∀ {q r : List En} {i : Nat}, i < r.length → atI (q ++ r) i = atI r i
  | [], r, i, h => rfl
  | e :: q, r, i, h => by
    show (if i = (q ++ r).length then some e else atI (q ++ r) i) = _
    rw [if_neg (by simp; omega)]
    exact atI_app h
theorem cAt_mono : ∀ {es : List En}, Tr P ρ n ops F0 H0 c0 es → c0 ≤ cAt c0 es
  | [], h => Nat.le_refl _
  | e :: r, h => by
    cases h with
    | cons h1 h2 =>
      have := cAt_mono h2
      have := h1.cc
      have := h1.c
      show c0 ≤ e.r.c'
      omega
theorem cAt_app : ∀ {q r : List En}, Tr P ρ n ops F0 H0 c0 (q ++ r) → cAt c0 r ≤ cAt c0 (q ++ r)
  | [], r, h => Nat.le_refl _
  | e :: q, r, h => by
    cases h with
    | cons h1 h2 =>
      have h1 : EnOK P ρ n ops F0 H0 c0 e (q ++ r) := h1
      have h2 : Tr P ρ n ops F0 H0 c0 (q ++ r) := h2
      have := cAt_app h2
      have := h1.cc
      have := h1.c
      show _ ≤ e.r.c'
      omega
theorem at_c {es : List En} {i : Nat} {e : En} (h : Tr P ρ n ops F0 H0 c0 es) (hi : atI es i = some e) : c0 ≤ e.r.c ∧ e.r.c ≤ e.r.c' ∧ e.r.c' ≤ cAt c0 es := by
  obtain ⟨r, h1, h2, h3, q, rfl⟩ := h.at_ hi
  have := cAt_mono h3
  have := h1.c
  refine ⟨by omega, h1.cc, ?_⟩
  exact cAt_app h
theorem at_apart {es : List En} {i j : Nat} {e e' : En} (h : Tr P ρ n ops F0 H0 c0 es) (hi : atI es i = some e) (hj : atI es j = some e') (hij : i < j) : e.r.c' ≤ e'.r.c := by
  obtain ⟨r, h1, h2, h3, q, rfl⟩ := h.at_ hj
  rw [h1.c]
  rw [show atI (q ++ e' :: r) i = atI r i by rw [atI_app (by simp; omega)]; unfold atI; rw [if_neg (by omega)]; cases r <;> rfl] at hi
  exact (at_c h3 hi).2.2
theorem at_wl : ∀ {es : List En} {i : Nat} {e : En} {b : Nat}, atI es i = some e → b ∈ e.r.wl → b ∈ wlAt wl0 es
  | [], i, e, b, h, hb => by cases h
  | e0 :: r, i, e, b, h, hb => by
    unfold atI at h
    split at h
    · cases h; exact List.mem_append_left _ hb
    · exact List.mem_append_right _ (at_wl h hb)
theorem HD_live : ∀ {es : List En} {D : Nat → Bool} {b : Nat}, Tr P ρ n ops F0 H0 c0 es → HD D H0 es b ≠ none → H0 b ≠ none ∨ (c0 ≤ b ∧ b < cAt c0 es)
  | [], D, b, h, hb => .inl hb
  | e :: r, D, b, h, hb => by
    cases h with
    | cons h1 h2 =>
      have h3 := cAt_mono h2
      have h4 := h1.cc
      have h5 := h1.c
      have key : ∀ D', HD D' H0 r b ≠ none → H0 b ≠ none ∨ (c0 ≤ b ∧ b < cAt c0 (e :: r)) := fun D' h => by
        rcases HD_live h2 h with h6 | ⟨h6, h7⟩
        · exact .inl h6
        · refine .inr ⟨h6, ?_⟩
          show b < e.r.c'
          omega
      unfold HD at hb
      split at hb
      · rcases h1.live b hb with h6 | ⟨h6, h7⟩
        · cases ho : e.r.H.get b with
          | none => exact absurd ho h6
          | some ob => exact key All (by rw [(h1.hp b ob ho).1]; simp)
        · exact .inr ⟨by omega, h7⟩
      · exact key D hb
theorem HD_same : ∀ {es : List En} {D : Nat → Bool} {b : Nat}, Tr P ρ n ops F0 H0 c0 es → b ∉ wlAt wl0 es → (b < c0 ∨ cAt c0 es ≤ b) → HD D H0 es b = H0 b
  | [], D, b, h, hb, hr => rfl
  | e :: r, D, b, h, hb, hr => by
    cases h with
    | cons h1 h2 =>
      have h3 := cAt_mono h2
      have h4 := h1.cc
      have h5 := h1.c
      have hr : b < c0 ∨ e.r.c' ≤ b := hr
      unfold HD
      rw [if_neg]
      · exact HD_same h2 (fun hm => hb (List.mem_append_right _ hm)) (by omega)
      · rintro ⟨_, h6 | ⟨h6, h7⟩⟩
        · exact hb (List.mem_append_left _ h6)
        · omega
theorem wl_live : ∀ {es : List En} {b : Nat}, Tr P ρ n ops F0 H0 c0 es → b ∈ wlAt wl0 es → b ∈ wl0 ∨ H0 b ≠ none ∨ (c0 ≤ b ∧ b < cAt c0 es)
  | [], b, h, hb => .inl hb
  | e :: r, b, h, hb => by
    cases h with
    | cons h1 h2 =>
      have h3 := cAt_mono h2
      have h4 := h1.cc
      have h5 := h1.c
      rcases List.mem_append.1 hb with hb | hb
      · rcases h1.wlive b hb with h6 | ⟨h6, h7⟩
        · cases ho : e.r.H.get b with
          | none => exact absurd ho h6
          | some ob =>
            rcases HD_live h2 (by rw [(h1.hp b ob ho).1]; simp : HD All H0 r b ≠ none) with h8 | ⟨h8, h9⟩
            · exact .inr (.inl h8)
            · exact .inr (.inr ⟨h8, by show b < e.r.c'; omega⟩)
        · exact .inr (.inr ⟨by omega, h7⟩)
      · rcases wl_live h2 hb with h6 | h6 | ⟨h6, h7⟩
        · exact .inl h6
        · exact .inr (.inl h6)
        · exact .inr (.inr ⟨h6, by show b < e.r.c'; omega⟩)
def Cl (es : List En) (D : Nat → Bool) : Prop := ∀ k e, atI es k = some e → D k = true → ∀ i, bit e.r.pre i → D i = true
def Apart (H0 : Nat → Option Ob) (c0 c1 : Nat) : Prop := ∀ b, H0 b ≠ none → ¬ (c0 ≤ b ∧ b < c1)
theorem hp_at {D : Nat → Bool} {j : Nat} {ej : En} {rj : List En} (hj : EnOK P ρ n ops F0 H0 c0 ej rj) (hl : rj.length = j) (hpre : ∀ i, bit ej.r.pre i → D i = true) (hDj : D j = false) {b : Nat} {ob : Ob} (hb : ej.r.H.get b = some ob) :
    ∀ {q : List En}, Tr P ρ n ops F0 H0 c0 (q ++ ej :: rj) → Apart H0 c0 (cAt c0 (q ++ ej :: rj)) → Cl (q ++ ej :: rj) D → HD D H0 (q ++ ej :: rj) b = some ob
  | [], h, ha, hc => by
    cases h with
    | cons h1 h2 =>
      show HD D H0 (ej :: rj) b = some ob
      unfold HD
      rw [if_neg (by rw [hl, hDj]; simp)]
      obtain ⟨h3, h4⟩ := hj.hp b ob hb
      have key : ∀ {r : List En} {q : List En}, rj = q ++ r → HD All H0 r b = some ob → HD D H0 r b = some ob := by
        intro r
        induction r with
        | nil => intro q _ h; exact h
        | cons e r ih =>
          intro q hq h
          have hat : atI rj r.length = some e := by
            rw [hq, atI_app (by simp)]
            unfold atI
            rw [if_pos rfl]
          unfold HD at h ⊢
          by_cases ht : Tch e.r b
          · have hbit : bit ej.r.pre r.length := by
              by_cases hn : bit ej.r.pre r.length
              · exact hn
              · exact absurd ht (h4 _ _ hat hn)
            rw [if_pos ⟨rfl, ht⟩] at h
            rw [if_pos ⟨hpre _ hbit, ht⟩]
            exact h
          · rw [if_neg (fun h => ht h.2)] at h ⊢
            exact ih (q := q ++ [e]) (by rw [hq]; simp) h
      exact key (q := []) rfl h3
  | e :: q, h, ha, hc => by
    cases h with
    | cons h1 h2 =>
      have h1 : EnOK P ρ n ops F0 H0 c0 e (q ++ ej :: rj) := h1
      have h2 : Tr P ρ n ops F0 H0 c0 (q ++ ej :: rj) := h2
      have hle : cAt c0 (q ++ ej :: rj) ≤ e.r.c' := by have := h1.c; have := h1.cc; omega
      have ih := hp_at hj hl hpre hDj hb (q := q) h2 (fun x hx hr => ha x hx ⟨hr.1, by show x < e.r.c'; omega⟩) (fun k ek hk hD => hc k ek (atI_cons hk) hD)
      show HD D H0 (e :: (q ++ ej :: rj)) b = some ob
      unfold HD
      rw [if_neg]
      · exact ih
      · rintro ⟨hD, ht⟩
        have hj' : atI (q ++ ej :: rj) j = some ej := by rw [atI_app (by simp; omega)]; unfold atI; rw [if_pos hl.symm]
        have hnb : ¬ bit e.r.pre j := fun hb' => by
          have hself : atI (e :: (q ++ ej :: rj)) (q ++ ej :: rj).length = some e := by unfold atI; rw [if_pos rfl]
          have := hc _ e hself hD j hb'
          rw [hDj] at this
          cases this
        have hH0 : HD All H0 rj b ≠ none := by rw [(hj.hp b ob hb).1]; simp
        rcases ht with ht | ⟨ht, ht'⟩
        · rw [h1.cl j ej hj' hnb b ht] at hb
          cases hb
        · have htr : Tr P ρ n ops F0 H0 c0 rj := by
            obtain ⟨r, k1, k2, k3, q2, k4⟩ := h2.at_ hj'
            have : rj = r := by
              have := List.append_inj_right' k4 (by simp [hl, k2])
              simpa using this
            rw [this]; exact k3
          have h5 := h1.c
          rcases HD_live htr hH0 with h6 | ⟨h6, h7⟩
          · refine ha b h6 ⟨?_, ht'⟩
            have := cAt_mono h2
            omega
          · have h8 : cAt c0 rj ≤ cAt c0 (q ++ ej :: rj) := by
              have e1 := hj.c
              have e2 := (at_c h2 hj')
              omega
            omega
end
end Go.Run
namespace Go.Run
open Go.Eng
set_option linter.unusedVariables false
set_option linter.unusedSimpArgs false
section
variable {P : Program} {E : Env} {F : Fm} {FL : FL} {n : Nat} {a : Act} {w0 : World} {H : PT Ob} {c : Nat} {w w' : World} {o : Oper}
theorem gv_ok {ops : Array Oper} {b : Bool} (hF : FRel E F FL) (hfr : Fr ⟨n, []⟩ a FL) (h : gv ops.toList F o.guard = some b) : Region.wanted o (yielded ops a.tmps) = b := by
  refine gd_wanted hfr ?_
  unfold gv at h
  unfold gd
  split at h
  · rename_i hg; first | (rw [hg]; exact h) | exact h
  · rename_i j want hg
    try rw [hg]
    try dsimp only
    split at h <;> first | (cases h; done) | skip
    rename_i oj hj
    rw [nth_eq, Array.getElem?_toList] at hj
    split at h <;> first | (cases h; done) | skip
    rename_i t ht
    rw [hj, Option.bind_some, ht]
    dsimp only
    split at h <;> first | (cases h; done) | skip
    · rename_i x hx
      obtain ⟨u, h1, h2⟩ := hF t _ hx
      rw [h1, show u = .bool x from h2]
      rw [← h]
      cases x <;> cases want <;> rfl
    · rename_i hx
      obtain ⟨u, h1, h2⟩ := hF t _ hx
      rw [h1, show u = undef from h2]
      exact h
theorem lk_enumV : ∀ (xs : List V) (k : Nat) (F : Fm) (j : Nat) (v : V), lk (enumV k xs F) j = some v → (k ≤ j ∧ xs[j - k]? = some v) ∨ lk F j = some v
  | [], k, F, j, v, h => .inr h
  | x :: r, k, F, j, v, h => by
    rcases lk_enumV r (k + 1) (F.put k (some x)) j v h with ⟨h1, h2⟩ | h1
    · refine .inl ⟨by omega, ?_⟩
      rw [show j - k = (j - (k + 1)) + 1 by omega, List.getElem?_cons_succ]
      exact h2
    · unfold lk at h1
      by_cases hj : j = k
      · subst hj
        rw [Fm.put_same] at h1
        exact .inl ⟨Nat.le_refl _, by simpa using h1⟩
      · rw [Fm.put_other _ _ hj] at h1
        exact .inr h1
theorem look_enum : ∀ (us : List Value) (k j : Nat) (u : Value), k ≤ j → us[j - k]? = some u → Eng.look (Eng.enumF k us) j = some u
  | [], k, j, u, h, hu => by simp at hu
  | x :: r, k, j, u, h, hu => by
    rw [Eng.enumF, look_cons]
    by_cases hj : k = j
    · subst hj
      rw [if_pos rfl]
      simpa using hu
    · rw [if_neg hj]
      refine look_enum r (k + 1) j u (by omega) ?_
      rwa [show j - k = (j - (k + 1)) + 1 by omega, List.getElem?_cons_succ] at hu
theorem frame0 {xs : List V} {us : List Value} (nv : Nat) (h : VRs E xs us) : FRel E (enumV 0 xs ⟨nv, .e, []⟩) (Eng.enumF 0 us) := fun j v hv => by
  rcases lk_enumV xs 0 ⟨nv, .e, []⟩ j v hv with ⟨_, h2⟩ | h2
  · obtain ⟨u, h3, h4⟩ := h.at_ h2
    exact ⟨u, look_enum us 0 j u (Nat.zero_le _) h3, h4⟩
  · unfold lk at h2
    rw [Fm.get_nil] at h2
    cases h2
theorem fr0 {us : List Value} {m : Nat} (h : us.length ≤ m) : Fr ⟨m, []⟩ { tmps := us.toArray ++ Array.replicate (m - us.toArray.size) undef, defers := [] } (Eng.enumF 0 us) := by
  refine ⟨by simp; omega, rfl, fun j v hv => ?_⟩
  obtain ⟨_, h2⟩ := look_enumF 0 us j v hv
  rw [Nat.sub_zero] at h2
  have hlt : j < us.toArray.size := by simpa using (List.getElem?_eq_some_iff.1 h2).1
  show (us.toArray ++ Array.replicate (m - us.toArray.size) undef).getD j undef = v
  rw [Array.getD_eq_getD_getElem?, Array.getElem?_append_left hlt, List.getElem?_toArray, h2]
  rfl
theorem packR_ok {vs : List V} {us : List Value} (h : VRs E vs us) : VR E (packR vs) (packV us) := by
  unfold packR packV
  split
  · obtain ⟨u, r, h1, h2, rfl⟩ := h
    rw [show r = [] from h2]
    exact h1
  · rename_i hne
    split
    · rename_i u
      have := h.len
      simp at this
      exact absurd (List.length_eq_one_iff.1 this.symm) (by rintro ⟨v, rfl⟩; exact hne v rfl)
    · exact ⟨us, h, rfl⟩
noncomputable def rvF (a : Act) : ResultVar → Sem Value
  | .tmp t => pure (a.tmps.getD t undef)
  | .cell x t => do loadVar t (← asAddr (a.tmps.getD x undef))
theorem results_ok {fn : Func} {vs : List V} (hF : FRel E F FL) (hfr : Fr ⟨n, []⟩ a FL) (hw : Wr w0 E H.get w) (h : rvs P F H fn.results.toList = some vs) : ∃ u, (results fn a.tmps).run P w = .ok u w ∧ VR E (packR vs) u := by
  have key : ∀ {rs : List ResultVar} {vs : List V}, rvs P F H rs = some vs → ∃ us, (rs.mapM (rvF a)).run P w = .ok us w ∧ VRs E vs us := by
    intro rs
    induction rs with
    | nil => intro vs h; injection h with h; subst h; exact ⟨[], by simp, rfl⟩
    | cons r rs ih =>
      intro vs h
      cases r with
      | tmp t =>
        unfold rvs at h
        split at h <;> first | (cases h; done) | skip
        rename_i v hv
        split at h <;> first | (cases h; done) | skip
        rename_i vs' hvs
        cases h
        obtain ⟨us, h1, h2⟩ := ih hvs
        obtain ⟨u, h3, h4⟩ := hF t v hv
        exact ⟨u :: us, by simp only [List.mapM_cons, Sem.run_bind, Sem.run_pure, Result.andThen_ok, rvF, hfr.at_ _ _ h3, h1], u, us, h4, h2, rfl⟩
      | cell x t =>
        unfold rvs at h
        split at h <;> first | (cases h; done) | skip
        rename_i m ag b off k1 k2 k3
        split at h <;> first | (cases h; done) | skip
        rename_i cs k4
        split at h <;> first | (cases h; done) | skip
        rename_i v vs' k5 k6
        cases h
        obtain ⟨us, h1, h2⟩ := ih k6
        obtain ⟨_, h3, g, hg, rfl⟩ := hF x _ k3
        obtain ⟨d, hd, hn⟩ := agv_ok k2
        unfold ldc at k4
        split at k4 <;> first | (cases k4; done) | skip
        rename_i ob hb
        obtain ⟨us', cur, q1, q2, q3⟩ := live_ hw hb hg
        obtain ⟨p1, p2, p3⟩ := prt_ok k4 q1
        rw [← q1.len] at p1
        have hcell : ∀ j v, ((us'.drop off).take m)[j]? = some v → w.cell? ⟨g, off + j, none⟩ = some v := fun j v hv => by
          rw [List.getElem?_take] at hv
          split at hv
          · rw [List.getElem?_drop] at hv
            have := take_at q3 hv
            simp [World.cell?, q2, this]
          · cases hv
        have hl : ((us'.drop off).take m).length = m := by rw [List.length_take, List.length_drop]; omega
        have hld := run_cells (P := P) hcell
        rw [hl] at hld
        have hm := szv_ok k1
        unfold pack at k5
        cases ag with
        | true =>
          injection k5 with k5
          subst k5
          refine ⟨.agg ((us'.drop off).take m).toArray :: us, ?_, _, us, ⟨_, p3, rfl⟩, h2, rfl⟩
          have hs : (rvF a (.cell x t)).run P w = .ok (.agg ((us'.drop off).take m).toArray) w := by
            simp only [rvF, Sem.run_bind, Sem.run_pure, Result.andThen_ok, hfr.at_ _ _ h3, asAddr, loadVar, run_isAgg1 hd hn, if_true, run_size hm, hld]
          simp only [List.mapM_cons, Sem.run_bind, Sem.run_pure, Result.andThen_ok, hs, h1]
        | false =>
          dsimp only at k5
          split at k5 <;> first | (cases k5; done) | skip
          rename_i v'
          injection k5 with k5
          subst k5
          obtain ⟨u, r, r1, r2, r3⟩ := p3
          have h0 : w.cell? ⟨g, off, none⟩ = some u := hcell 0 u (by rw [r3]; rfl)
          refine ⟨u :: us, ?_, u, us, r1, h2, rfl⟩
          have hs : (rvF a (.cell x t)).run P w = .ok u w := by
            simp only [rvF, Sem.run_bind, Sem.run_pure, Result.andThen_ok, hfr.at_ _ _ h3, asAddr, loadVar, run_isAgg0 hd hn, if_false, Bool.false_eq_true, Eng.run_load (P := P) h0]
          simp only [List.mapM_cons, Sem.run_bind, Sem.run_pure, Result.andThen_ok, hs, h1]
  obtain ⟨us, h1, h2⟩ := key h
  refine ⟨packV us, ?_, packR_ok h2⟩
  have hm : (fn.results.mapM (rvF a)).run P w = .ok us.toArray w := by
    have : fn.results = fn.results.toList.toArray := by simp
    rw [this]
    simp only [List.mapM_toArray, Sem.run_map, h1, Result.andThen_ok]
  have hf : (fun r : ResultVar => (match r with | .tmp t => pure (a.tmps.getD t undef) | .cell x t => do loadVar t (← asAddr (a.tmps.getD x undef)) : Sem Value)) = rvF a := by
    funext r
    cases r <;> rfl
  unfold results
  rw [Sem.run_bind]
  refine (congrArg (fun r => Result.andThen r _) hm).trans ?_
  simp only [Result.andThen_ok]
  match us with
  | [] => simp [packV]
  | [v] => simp [packV]
  | u :: v :: r => simp [packV]
end
end Go.Run
namespace Go.Run
open Go.Eng
set_option linter.unusedVariables false
set_option linter.unusedSimpArgs false
noncomputable def add (D : Nat → Bool) (j : Nat) : Nat → Bool := fun i => if i = j then true else D i
section
variable {P : Program} {ρ : Rho} {n : Nat} {ops : Array Oper} {F0 : Nat → Option V} {H0 : Nat → Option Ob} {c0 : Nat} {wl0 : List Nat}
theorem HD_congr {D D' : Nat → Bool} : ∀ {es : List En} {b : Nat}, (∀ i, i < es.length → D i = D' i) → HD D H0 es b = HD D' H0 es b
  | [], b, h => rfl
  | e :: r, b, h => by
    unfold HD
    rw [h r.length (by simp), HD_congr (es := r) (fun i hi => h i (by simp; omega))]
theorem FD_congr {D D' : Nat → Bool} : ∀ {es : List En} {t : Nat}, (∀ i, i < es.length → D i = D' i) → FD D F0 es t = FD D' F0 es t
  | [], b, h => rfl
  | e :: r, b, h => by
    unfold FD
    rw [h r.length (by simp), FD_congr (es := r) (fun i hi => h i (by simp; omega))]
theorem atI_mid {q r : List En} {e : En} : atI (q ++ e :: r) r.length = some e := by
  rw [atI_app (by simp)]
  unfold atI
  rw [if_pos rfl]
theorem atI_self {e : En} {r : List En} : atI (e :: r) r.length = some e := by
  unfold atI
  rw [if_pos rfl]
theorem HD_add {D : Nat → Bool} {e : En} {r : List En} (hD : D r.length = false) {b : Nat} : ∀ {q : List En}, Tr P ρ n ops F0 H0 c0 (q ++ e :: r) → Apart H0 c0 (cAt c0 (q ++ e :: r)) → Cl (q ++ e :: r) D →
    HD (add D r.length) H0 (q ++ e :: r) b = if Tch e.r b then e.K.get b else HD D H0 (q ++ e :: r) b
  | [], h, ha, hc => by
    show HD _ H0 (e :: r) b = if Tch e.r b then e.K.get b else HD D H0 (e :: r) b
    have h1 : HD D H0 (e :: r) b = HD D H0 r b := by
      show (if D r.length = true ∧ Tch e.r b then e.K.get b else HD D H0 r b) = _
      rw [if_neg (by rw [hD]; simp)]
    have h2 : HD (add D r.length) H0 (e :: r) b = if Tch e.r b then e.K.get b else HD (add D r.length) H0 r b := by
      show (if add D r.length r.length = true ∧ Tch e.r b then e.K.get b else HD _ H0 r b) = _
      have : add D r.length r.length = true := if_pos rfl
      rw [this]
      simp
    rw [h1, h2, HD_congr (D := add D r.length) (D' := D) (fun i hi => if_neg (by omega))]
  | ek :: q, h, ha, hc => by
    cases h with
    | cons h1 h2 =>
      have h1 : EnOK P ρ n ops F0 H0 c0 ek (q ++ e :: r) := h1
      have h2 : Tr P ρ n ops F0 H0 c0 (q ++ e :: r) := h2
      have hle : cAt c0 (q ++ e :: r) ≤ ek.r.c' := by have := h1.c; have := h1.cc; omega
      have ih := HD_add hD (b := b) (q := q) h2 (fun x hx hr => ha x hx ⟨hr.1, by show x < ek.r.c'; omega⟩) (fun k ek hk hD => hc k ek (atI_cons hk) hD)
      have hk : add D r.length (q ++ e :: r).length = D (q ++ e :: r).length := if_neg (by simp; omega)
      show (if add D r.length (q ++ e :: r).length = true ∧ Tch ek.r b then ek.K.get b else HD _ H0 (q ++ e :: r) b) = if Tch e.r b then e.K.get b else (if D (q ++ e :: r).length = true ∧ Tch ek.r b then ek.K.get b else HD D H0 (q ++ e :: r) b)
      rw [hk]
      by_cases hc1 : D (q ++ e :: r).length = true ∧ Tch ek.r b
      · rw [if_pos hc1, if_pos hc1, if_neg]
        intro ht
        have hat : atI (q ++ e :: r) r.length = some e := atI_mid
        have hnb : ¬ bit ek.r.pre r.length := fun hb' => by
          have := hc _ ek atI_self hc1.1 r.length hb'
          rw [hD] at this
          cases this
        obtain ⟨r2, k1, k2, k3, q2, k4⟩ := h2.at_ hat
        have hr2 : r = r2 := by simpa using List.append_inj_right' k4 (by simp [k2])
        subst hr2
        have e1 := k1.c
        have e2 := (at_c h2 hat).2.2
        have e3 := h1.c
        have notnew : ¬ (ek.r.c ≤ b ∧ b < ek.r.c') := fun ⟨n1, n2⟩ => by
          rcases ht with ht | ⟨_, ht⟩
          · rcases k1.wlive b ht with h6 | ⟨_, h7⟩
            · cases ho : e.r.H.get b with
              | none => exact absurd ho h6
              | some ob =>
                rcases HD_live k3 (by rw [(k1.hp b ob ho).1]; simp : HD All H0 r b ≠ none) with h8 | ⟨_, h9⟩
                · refine ha b h8 ⟨?_, n2⟩
                  have := cAt_mono h2
                  omega
                · have := k1.cc; omega
            · omega
          · omega
        rcases hc1.2 with h5 | h5
        · rcases h1.wlive b h5 with h6 | h6
          · cases ho : ek.r.H.get b with
            | none => exact absurd ho h6
            | some ob => exact (h1.hp b ob ho).2 _ e hat hnb ht
          · exact notnew h6
        · exact notnew h5
      · rw [if_neg hc1, if_neg hc1]
        exact ih
theorem FD_add {D : Nat → Bool} {e : En} {r : List En} (hD : D r.length = false) {t : Nat} {v : V} : ∀ {q : List En}, Tr P ρ n ops F0 H0 c0 (q ++ e :: r) → FD (add D r.length) F0 (q ++ e :: r) t = some v →
    (e.r.dst = some t ∧ v = e.v) ∨ (e.r.dst ≠ some t ∧ FD D F0 (q ++ e :: r) t = some v)
  | [], h, hv => by
    have hv : (if add D r.length r.length = true ∧ e.r.dst = some t then some e.v else FD (add D r.length) F0 r t) = some v := hv
    have h0 : add D r.length r.length = true := if_pos rfl
    have h1 : FD D F0 (e :: r) t = FD D F0 r t := by
      show (if D r.length = true ∧ e.r.dst = some t then some e.v else FD D F0 r t) = _
      rw [if_neg (by rw [hD]; simp)]
    by_cases hd : e.r.dst = some t
    · rw [if_pos ⟨h0, hd⟩] at hv
      injection hv with hv
      exact .inl ⟨hd, hv.symm⟩
    · rw [if_neg (fun h => hd h.2), FD_congr (D := add D r.length) (D' := D) (fun i hi => if_neg (by omega))] at hv
      exact .inr ⟨hd, by show FD D F0 (e :: r) t = _; rw [h1]; exact hv⟩
  | ek :: q, h, hv => by
    cases h with
    | cons h1 h2 =>
      have h1 : EnOK P ρ n ops F0 H0 c0 ek (q ++ e :: r) := h1
      have h2 : Tr P ρ n ops F0 H0 c0 (q ++ e :: r) := h2
      have hk : add D r.length (q ++ e :: r).length = D (q ++ e :: r).length := if_neg (by simp; omega)
      have hv : (if add D r.length (q ++ e :: r).length = true ∧ ek.r.dst = some t then some ek.v else FD (add D r.length) F0 (q ++ e :: r) t) = some v := hv
      rw [hk] at hv
      show _ ∨ (_ ∧ (if D (q ++ e :: r).length = true ∧ ek.r.dst = some t then some ek.v else FD D F0 (q ++ e :: r) t) = some v)
      by_cases hc1 : D (q ++ e :: r).length = true ∧ ek.r.dst = some t
      · rw [if_pos hc1] at hv ⊢
        exact .inr ⟨h1.nd _ e atI_mid t hc1.2, hv⟩
      · rw [if_neg hc1] at hv ⊢
        exact FD_add hD h2 hv
theorem FD_of {D : Nat → Bool} {t : Nat} {v : V} : ∀ {es : List En}, FD D F0 es t = some v → F0 t = some v ∨ ∃ i e, atI es i = some e ∧ e.r.dst = some t
  | [], h => .inl h
  | e :: r, h => by
    unfold FD at h
    split at h
    · rename_i hc; exact .inr ⟨_, e, atI_self, hc.2⟩
    · rcases FD_of h with h1 | ⟨i, e', h1, h2⟩
      · exact .inl h1
      · exact .inr ⟨i, e', atI_cons h1, h2⟩
theorem fr_at {D : Nat → Bool} {ej : En} {rj : List En} (hF0 : ∀ (i : Nat) (o : Oper) (t : Nat), ops[i]? = some o → o.dst = some t → F0 t = none) (hj : EnOK P ρ n ops F0 H0 c0 ej rj) (hpre : ∀ i, bit ej.r.pre i → D i = true) (hDj : D rj.length = false) {t : Nat} {v : V} (hv : ej.F.get t = some v) :
    ∀ {q : List En}, Tr P ρ n ops F0 H0 c0 (q ++ ej :: rj) → FD D F0 (q ++ ej :: rj) t = some v
  | [], h => by
    show (if D rj.length = true ∧ ej.r.dst = some t then some ej.v else FD D F0 rj t) = some v
    rw [if_neg (by rw [hDj]; simp)]
    obtain ⟨h3, h4⟩ := hj.fr t v hv
    have key : ∀ {r : List En} {q : List En}, rj = q ++ r → FD All F0 r t = some v → FD D F0 r t = some v := by
      intro r
      induction r with
      | nil => intro q _ h; exact h
      | cons e r ih =>
        intro q hq h
        have hat : atI rj r.length = some e := by rw [hq]; exact atI_mid
        unfold FD at h ⊢
        by_cases ht : e.r.dst = some t
        · have hbit : bit ej.r.pre r.length := by
            by_cases hn : bit ej.r.pre r.length
            · exact hn
            · exact absurd ht (h4 _ _ hat hn)
          rw [if_pos ⟨rfl, ht⟩] at h
          rw [if_pos ⟨hpre _ hbit, ht⟩]
          exact h
        · rw [if_neg (fun h => ht h.2)] at h ⊢
          exact ih (q := q ++ [e]) (by rw [hq]; simp) h
    exact key (q := []) rfl h3
  | e :: q, h => by
    cases h with
    | cons h1 h2 =>
      have h1 : EnOK P ρ n ops F0 H0 c0 e (q ++ ej :: rj) := h1
      have h2 : Tr P ρ n ops F0 H0 c0 (q ++ ej :: rj) := h2
      have ih := fr_at hF0 hj hpre hDj hv (q := q) h2
      show (if D (q ++ ej :: rj).length = true ∧ e.r.dst = some t then some e.v else FD D F0 (q ++ ej :: rj) t) = some v
      rw [if_neg]
      · exact ih
      · rintro ⟨_, hd⟩
        rcases FD_of ih with h3 | ⟨i, e', h3, h4⟩
        · rw [hF0 _ _ _ h1.at_ (by rw [← h1.dst]; exact hd)] at h3
          cases h3
        · exact h1.nd i e' h3 t hd h4
structure Rel (ρ : Rho) (n : Nat) (F0 : Nat → Option V) (H0 : Nat → Option Ob) (c0 : Nat) (wl0 : List Nat) (w0 ws : World) (E0 : Env) (es : List En) (D : Nat → Bool) (E : Env) (a : Act) (w : World) : Prop where
  ρ : E.ρ = ρ
  fa : ∃ FL, Fr ⟨n, []⟩ a FL ∧ ∀ t v, FD D F0 es t = some v → ∃ u, Eng.look FL t = some u ∧ VR E v u
  nx : Nx w0 E0 H0 c0 ws E (HD D H0 es) (cAt c0 es) (wlAt wl0 es) w
  fr : ∀ i e, atI es i = some e → D i = false → Fresh E e.r.c e.r.c'
theorem Wr.sub {w0 : World} {E : Env} {H H' : Nat → Option Ob} {w : World} (h : Wr w0 E H w) (hs : ∀ b o, H' b = some o → H b = some o) : Wr w0 E H' w :=
  have hn : ∀ b, H' b ≠ none → H b ≠ none := fun b hb => by
    cases e : H' b with
    | none => exact absurd e hb
    | some o => rw [hs b o e]; simp
  ⟨h.agree, fun b o hb => h.lr b o (hs b o hb), h.own, fun b b' g h1 h2 => h.inj b b' g (hn b h1) (hn b' h2)⟩
theorem Rel.step {w0 ws : World} {E0 : Env} {es : List En} {D : Nat → Bool} {E : Env} {a : Act} {w : World} {j : Nat} {e : En} {K : Act → World → Prop} {Q : Exit → Act → World → Prop}
    (hr : Rel ρ n F0 H0 c0 wl0 w0 ws E0 es D E a w) (ht : Tr P ρ n ops F0 H0 c0 es) (hap : Apart H0 c0 (cAt c0 es)) (hf0 : Fresh E0 c0 (cAt c0 es)) (hF0 : ∀ (i : Nat) (o : Oper) (t : Nat), ops[i]? = some o → o.dst = some t → F0 t = none) (hc : Cl es D) (hj : atI es j = some e) (hD : D j = false) (hpre : ∀ i, bit e.r.pre i → D i = true)
    (k : ∀ E' a' w', Rel ρ n F0 H0 c0 wl0 w0 ws E0 es (add D j) E' a' w' → K a' w') : wpOp P ops Q j K a w := by
  obtain ⟨r, k1, rfl, k3, q, rfl⟩ := ht.at_ hj
  obtain ⟨FL, hfr, hfd⟩ := hr.fa
  have hF : FRel E e.F FL := fun t v hv => hfd t v (fr_at hF0 k1 hpre hD hv ht)
  have hH : ∀ b o, e.r.H.get b = some o → HD D H0 (q ++ e :: r) b = some o := fun b o hb => hp_at k1 rfl hpre hD hb ht hap hc
  have hHn : ∀ b, e.r.H.get b ≠ none → HD D H0 (q ++ e :: r) b ≠ none := fun b hb => by
    cases e1 : e.r.H.get b with
    | none => exact absurd e1 hb
    | some o => rw [hH b o e1]; simp
  have hwr := hr.nx.wr
  have hcc := at_c ht hj
  have hfj := hr.fr _ e hj hD
  have hadd := fun b => HD_add (b := b) hD ht hap hc
  have want := gv_ok hF hfr k1.guard
  -- the frame behind it
  have fa' : ∀ {E' : Env} {u : Value}, Ext E E' → VR E' e.v u → ∃ FL, Fr ⟨n, []⟩ (a.put e.o.dst u) FL ∧ ∀ t v, FD (add D r.length) F0 (q ++ e :: r) t = some v → ∃ u, Eng.look FL t = some u ∧ VR E' v u := by
    intro E' u hx hu
    have hdok := k1.dOk
    have hdst := k1.dst
    cases hd : e.o.dst with
    | none =>
      refine ⟨FL, hfr.putNone u, fun t v hv => ?_⟩
      rcases FD_add hD ht hv with ⟨h1, _⟩ | ⟨_, h1⟩
      · rw [hdst, hd] at h1; cases h1
      · obtain ⟨u', h2, h3⟩ := hfd t v h1
        exact ⟨u', h2, VR.mono hx _ _ h3⟩
    | some d =>
      rw [hd] at hdok hdst
      refine ⟨_, hfr.put (blt_lt hdok) u, fun t v hv => ?_⟩
      rw [look_cons]
      rcases FD_add hD ht hv with ⟨h1, h2⟩ | ⟨h1, h2⟩
      · rw [hdst] at h1
        injection h1 with h1
        rw [if_pos h1, h2]
        exact ⟨u, rfl, hu⟩
      · rw [hdst] at h1
        rw [if_neg (fun h => h1 (congrArg some h))]
        obtain ⟨u', h3, h4⟩ := hfd t v h2
        exact ⟨u', h3, VR.mono hx _ _ h4⟩
  unfold wpOp
  simp only [k1.at_]
  cases hon : e.on with
  | false =>
    obtain ⟨h1, h2, h3⟩ := k1.off hon
    rw [if_neg (by rw [want, hon]; decide)]
    have hnt : ∀ b, ¬ Tch e.r b := fun b hb => by
      rcases hb with hb | hb
      · rw [h2] at hb; cases hb
      · omega
    have heq : HD (add D r.length) H0 (q ++ e :: r) = HD D H0 (q ++ e :: r) := funext fun b => by rw [hadd, if_neg (hnt b)]
    refine k E _ w ⟨hr.ρ, fa' (Ext.refl E) (by rw [h1]; rfl), by rw [heq]; exact hr.nx, fun i e' hi hd => hr.fr i e' hi ?_⟩
    have : (if i = r.length then true else D i) = false := hd
    split at this
    · cases this
    · exact this
  | true =>
    rw [if_pos (by rw [want, hon])]
    refine .inl (k1.sem hon w0 E a w K Q hr.ρ ⟨FL, hfr, hF⟩ (hwr.sub hH) hfj (fun E' u w' hn hu => k E' _ w' ?_))
    have inj' : ∀ b b' g, HD D H0 (q ++ e :: r) b ≠ none → HD D H0 (q ++ e :: r) b' ≠ none → E.ν b = some g → E.ν b' = some g → b = b' := hwr.inj
    -- what was there and was not touched
    have old : ∀ b, ¬ Tch e.r b → HD D H0 (q ++ e :: r) b ≠ none → ∃ g obj o, HD D H0 (q ++ e :: r) b = some o ∧ E.ν b = some g ∧ w.heap[g]? = some obj ∧ w'.heap[g]? = some obj ∧ OR E o obj ∧ g < w.heap.size ∧ ∀ b0 ∈ e.r.wl, e.r.H.get b0 ≠ none → E.ν b0 ≠ some g := by
      intro b hb hl
      cases ho : HD D H0 (q ++ e :: r) b with
      | none => exact absurd ho hl
      | some o =>
        obtain ⟨g, obj, h1, h2, h3⟩ := hwr.lr b o ho
        have hlt := (Array.getElem?_eq_some_iff.1 h2).1
        have hne : ∀ b0 ∈ e.r.wl, e.r.H.get b0 ≠ none → E.ν b0 ≠ some g := fun b0 hb0 hl0 e1 => hb (.inl (by rw [← inj' b0 b g (hHn b0 hl0) hl e1 h1]; exact hb0))
        exact ⟨g, obj, o, rfl, h1, h2, (hn.keep g hlt hne).trans h2, h3, hlt, hne⟩
    have base : ∀ b g, HD D H0 (q ++ e :: r) b ≠ none → E0.ν b = some g → H0 b ≠ none := fun b g hl hg => by
      rcases HD_live ht hl with h1 | ⟨h1, h2⟩
      · exact h1
      · rw [(hf0 b h1 h2).1] at hg; cases hg
    have hwr' : Wr w0 E' (HD (add D r.length) H0 (q ++ e :: r)) w' := by
      refine ⟨hn.wr.agree, fun b o hb => ?_, hn.wr.own, fun b b' g hb hb' h1 h2 => ?_⟩
      · rw [hadd] at hb
        split at hb
        · exact hn.wr.lr b o hb
        · rename_i hnt
          obtain ⟨g, obj, o', h1, h2, h3, h4, h5, _⟩ := old b hnt (by rw [hb]; simp)
          rw [h1] at hb
          injection hb with hb
          subst hb
          exact ⟨g, obj, hn.ext.ν _ _ h2, h4, h5.mono hn.ext⟩
      · rw [hadd] at hb hb'
        have mixed : ∀ x y, Tch e.r x → e.K.get x ≠ none → ¬ Tch e.r y → HD D H0 (q ++ e :: r) y ≠ none → E'.ν x = some g → E'.ν y = some g → False := by
          intro x y hx hxl hy hyl e1 e2
          obtain ⟨g', obj, o', h1, h2, h3, h4, h5, h6, h7⟩ := old y hy hyl
          have : g = g' := by
            have := hn.ext.ν _ _ h2
            rw [e2] at this
            injection this
          subst this
          rcases hn.nu x g e1 with h8 | ⟨h8, h9, h10⟩
          · rcases hn.live x hxl with h11 | ⟨h11, h12⟩
            · exact hy (by rw [← inj' x y g (hHn x h11) hyl h8 h2]; exact hx)
            · rw [(hfj x h11 h12).1] at h8; cases h8
          · rcases h10 with h10 | ⟨b0, h10, h11, h12⟩
            · omega
            · exact h7 b0 h10 h11 h12
        by_cases t1 : Tch e.r b <;> by_cases t2 : Tch e.r b'
        · rw [if_pos t1] at hb; rw [if_pos t2] at hb'
          exact hn.wr.inj b b' g hb hb' h1 h2
        · rw [if_pos t1] at hb; rw [if_neg t2] at hb'
          exact (mixed b b' t1 hb t2 hb' h1 h2).elim
        · rw [if_neg t1] at hb; rw [if_pos t2] at hb'
          exact (mixed b' b t2 hb' t1 hb h2 h1).elim
        · rw [if_neg t1] at hb; rw [if_neg t2] at hb'
          obtain ⟨g1, _, _, _, p1, _⟩ := old b t1 hb
          obtain ⟨g2, _, _, _, p2, _⟩ := old b' t2 hb'
          have e1 := hn.ext.ν _ _ p1
          have e2 := hn.ext.ν _ _ p2
          rw [h1] at e1
          rw [h2] at e2
          injection e1 with e1
          injection e2 with e2
          subst e1
          subst e2
          exact inj' b b' _ hb hb' p1 p2
    refine ⟨by rw [hn.ext.ρ]; exact hr.ρ, fa' hn.ext hu, ⟨hr.nx.ext.trans hn.ext, hwr', Nat.le_trans hr.nx.size hn.size, fun b g hb => ?_, fun i x hi => ?_, fun g hg hne => ?_, fun b hb hrg => HD_same ht hb hrg, fun b hb => HD_live ht hb⟩, fun i e' hi hd => ?_⟩
    · rcases hn.nu b g hb with h1 | ⟨h1, h2, h3⟩
      · exact hr.nx.nu b g h1
      · refine .inr ⟨by omega, by omega, ?_⟩
        rcases h3 with h3 | ⟨b0, h3, h4, h5⟩
        · exact .inl (Nat.le_trans hr.nx.size h3)
        · rcases hr.nx.nu b0 g h5 with h6 | ⟨_, _, h6⟩
          · exact .inr ⟨b0, at_wl hj h3, base b0 g (hHn b0 h4) h6, h6⟩
          · exact h6
    · rcases hn.kap i x hi with h1 | ⟨h1, h2⟩
      · exact hr.nx.kap i x h1
      · exact .inr ⟨by omega, by omega⟩
    · have h1 := hr.nx.keep g hg hne
      refine (hn.keep g (Nat.lt_of_lt_of_le hg hr.nx.size) (fun b0 hb0 hl0 e1 => ?_)).trans h1
      rcases hr.nx.nu b0 g e1 with h6 | ⟨_, _, h6⟩
      · exact hne b0 (at_wl hj hb0) (base b0 g (hHn b0 hl0) h6) h6
      · rcases h6 with h6 | ⟨b1, h6, h7, h8⟩
        · omega
        · exact hne b1 h6 h7 h8
    · have hd : (if i = r.length then true else D i) = false := hd
      split at hd
      · cases hd
      · rename_i hne
        have h0 := hr.fr i e' hi hd
        have hap2 : e'.r.c' ≤ e.r.c ∨ e.r.c' ≤ e'.r.c := by
          rcases Nat.lt_or_gt_of_ne hne with h | h
          · exact .inl (at_apart ht hi hj h)
          · exact .inr (at_apart ht hj hi h)
        intro b hb hb'
        obtain ⟨f1, f2⟩ := h0 b hb hb'
        refine ⟨?_, ?_⟩
        · cases h : E'.ν b with
          | none => rfl
          | some g =>
            rcases hn.nu b g h with h1 | ⟨h1, h2, _⟩
            · rw [f1] at h1; cases h1
            · omega
        · cases h : E'.κ b with
          | none => rfl
          | some g =>
            rcases hn.kap b g h with h1 | ⟨h1, h2⟩
            · rw [f2] at h1; cases h1
            · omega
end
end Go.Run
namespace Go.Run
open Go.Eng
set_option linter.unusedVariables false
set_option linter.unusedSimpArgs false
theorem isD_eq (x : Rec) (r : List Rec) (t : Nat) : isD (x :: r) t = match x.dst with
    | some d => (match Nat.beq d t with | true => true | false => isD r t)
    | none => isD r t := by
  show Option.rec (motive := fun _ => Bool) (isD r t) (fun d => Bool.rec (motive := fun _ => Bool) (isD r t) true (Nat.beq d t)) x.dst = _
  cases x.dst with
  | none => rfl
  | some d => show Bool.rec (motive := fun _ => Bool) (isD r t) true (Nat.beq d t) = _; dsimp only; cases Nat.beq d t <;> rfl
theorem outs_eq (x : Rec) (r : List Rec) (j a : Nat) : outs (x :: r) (Nat.succ j) a = match Nat.beq (Nat.land (Nat.shiftRight a j) 1) 1 with
    | true => outs r j a
    | false => x :: outs r j a := by
  show Bool.rec (motive := fun _ => List Rec) (x :: outs r j a) (outs r j a) (Nat.beq (Nat.land (Nat.shiftRight a j) 1) 1) = _
  cases Nat.beq (Nat.land (Nat.shiftRight a j) 1) 1 <;> rfl
theorem bit_iff {a i : Nat} : bit a i ↔ a.testBit i = true := by
  unfold bit Nat.testBit
  show (a >>> i) &&& 1 = 1 ↔ _
  rw [Nat.and_comm (a >>> i) 1, Nat.one_and_eq_mod_two, bne_iff_ne]
  omega
theorem bit_lor {a b i : Nat} : bit (Nat.lor a b) i ↔ bit a i ∨ bit b i := by
  rw [bit_iff, bit_iff, bit_iff]
  show (a ||| b).testBit i = true ↔ _
  rw [Nat.testBit_or, Bool.or_eq_true]
theorem bit_one {k i : Nat} : bit (Nat.shiftLeft 1 k) i ↔ i = k := by
  rw [bit_iff]
  show (1 <<< k).testBit i = true ↔ _
  rw [Nat.one_shiftLeft, Nat.testBit_two_pow]
  simp [eq_comm]
theorem bit_zero {i : Nat} : ¬ bit 0 i := by
  rw [bit_iff]; simp
theorem nth_at : ∀ {es : List En} {i : Nat}, i < es.length → nth (es.map (·.r)) (es.length - 1 - i) = (atI es i).map (·.r)
  | [], i, h => by simp at h
  | e :: r, i, h => by
    unfold atI
    by_cases hi : i = r.length
    · rw [if_pos hi, hi]
      simp; rfl
    · rw [if_neg hi]
      have hlt : i < r.length := by simp at h; omega
      have : (e :: r).length - 1 - i = (r.length - 1 - i) + 1 := by simp; omega
      rw [this]
      show nth (r.map (·.r)) (r.length - 1 - i) = _
      exact nth_at hlt
theorem preM_ok {es : List En} : ∀ {l : List Edge} {a pre : Nat}, preM (es.map (·.r)) es.length l a = some pre →
    (∀ i, bit pre i → bit a i ∨ ∃ x ∈ l, Region.binds .any x = true ∧ (i = x.on ∨ ∃ e', atI es x.on = some e' ∧ bit e'.r.pre i)) ∧ ∀ x ∈ l, Region.binds .any x = true → x.on < es.length
  | [], a, pre, h => by
    cases h
    exact ⟨fun i hi => .inl hi, fun x hx => by cases hx⟩
  | x :: r, a, pre, h => by
    unfold preM at h
    split at h
    · rename_i hb
      obtain ⟨h1, h2⟩ := preM_ok h
      refine ⟨fun i hi => (h1 i hi).imp id (fun ⟨y, hy, h⟩ => ⟨y, List.mem_cons_of_mem _ hy, h⟩), fun y hy hby => ?_⟩
      rcases List.mem_cons.1 hy with rfl | hy
      · rw [hb] at hby; cases hby
      · exact h2 y hy hby
    · rename_i hb
      split at h <;> first | (cases h; done) | skip
      rename_i rc hn hlt
      have hlt : x.on < es.length := Nat.le_of_ble_eq_true hlt
      have hn : nth (es.map (·.r)) (es.length - 1 - x.on) = some rc := hn
      rw [nth_at hlt] at hn
      obtain ⟨e', he', rfl⟩ := Option.map_eq_some_iff.1 hn
      obtain ⟨h1, h2⟩ := preM_ok h
      refine ⟨fun i hi => ?_, fun y hy hby => ?_⟩
      · rcases h1 i hi with h3 | ⟨y, hy, h3⟩
        · rcases bit_lor.1 h3 with h4 | h4
          · exact .inl h4
          · rcases bit_lor.1 h4 with h5 | h5
            · exact .inr ⟨x, List.mem_cons_self, hb, .inl (bit_one.1 h5)⟩
            · exact .inr ⟨x, List.mem_cons_self, hb, .inr ⟨e', he', h5⟩⟩
        · exact .inr ⟨y, List.mem_cons_of_mem _ hy, h3⟩
      · rcases List.mem_cons.1 hy with rfl | hy
        · exact hlt
        · exact h2 y hy hby
theorem outs_ok {a : Nat} : ∀ {es : List En} {i : Nat} {e : En}, atI es i = some e → ¬ bit a i → e.r ∈ outs (es.map (·.r)) es.length a
  | [], i, e, h, _ => by cases h
  | e0 :: r, i, e, h, hb => by
    unfold atI at h
    have go : atI r i = some e → e.r ∈ outs ((e0 :: r).map (·.r)) (e0 :: r).length a := fun h => by
      have ih := outs_ok h hb
      show e.r ∈ outs (e0.r :: r.map (·.r)) (Nat.succ r.length) a
      rw [outs_eq]
      split
      · exact ih
      · exact List.mem_cons_of_mem _ ih
    split at h
    · rename_i hi
      cases h
      show e0.r ∈ outs (e0.r :: r.map (·.r)) (Nat.succ r.length) a
      rw [outs_eq]
      rw [show Nat.beq (Nat.land (Nat.shiftRight a r.length) 1) 1 = false from beq_f.2 (fun h => hb (by rw [hi]; exact h))]
      exact List.mem_cons_self
    · exact go h
theorem isD_ok : ∀ {rs : List Rec} {t : Nat}, isD rs t = false → ∀ x ∈ rs, x.dst ≠ some t
  | [], t, h, x, hx => by cases hx
  | y :: r, t, h, x, hx => by
    rw [isD_eq] at h
    split at h
    · rename_i d hd
      split at h <;> first | (cases h; done) | skip
      rename_i hn
      rcases List.mem_cons.1 hx with rfl | hx
      · rw [hd]; intro e; injection e with e; exact beq_f.1 hn e
      · exact isD_ok h x hx
    · rename_i hd
      rcases List.mem_cons.1 hx with rfl | hx
      · rw [hd]; simp
      · exact isD_ok h x hx
theorem maskF_ok {us : List Rec} {F : Fm} : ∀ {ts : List Nat} {G : Fm} {t : Nat} {v : V}, (maskF us F ts G).get t = some v → G.get t = some v ∨ (F.get t = some v ∧ ∀ x ∈ us, x.dst ≠ some t)
  | [], G, t, v, h => .inl h
  | s :: r, G, t, v, h => by
    unfold maskF at h
    split at h
    · exact maskF_ok h
    · rename_i hd
      rcases maskF_ok h with h1 | h1
      · by_cases e : t = s
        · subst e
          rw [Fm.put_same] at h1
          exact .inr ⟨h1, isD_ok hd⟩
        · rw [Fm.put_other _ _ e] at h1
          exact .inl h1
      · exact .inr h1
theorem delL_ok : ∀ {l : List Nat} {H : PT Ob} {b : Nat} {o : Ob}, (delL H l).get b = some o → H.get b = some o ∧ b ∉ l
  | [], H, b, o, h => ⟨h, by simp⟩
  | x :: r, H, b, o, h => by
    obtain ⟨h1, h2⟩ := delL_ok (l := r) h
    by_cases e : b = x
    · subst e; rw [PT.put_same] at h1; cases h1
    · rw [PT.put_other _ _ e] at h1
      exact ⟨h1, by simp [e, h2]⟩
theorem delR_ok : ∀ {k c : Nat} {H : PT Ob} {b : Nat} {o : Ob}, (delR H k c).get b = some o → H.get b = some o ∧ ¬ (c ≤ b ∧ b < c + k)
  | 0, c, H, b, o, h => ⟨h, by omega⟩
  | k + 1, c, H, b, o, h => by
    have h : (delR (H.put c none) k (c + 1)).get b = some o := h
    obtain ⟨h1, h2⟩ := delR_ok h
    by_cases e : b = c
    · subst e; rw [PT.put_same] at h1; cases h1
    · rw [PT.put_other _ _ e] at h1
      exact ⟨h1, by omega⟩
theorem maskH_ok : ∀ {us : List Rec} {H : PT Ob} {b : Nat} {o : Ob}, (∀ x ∈ us, x.c ≤ x.c') → (maskH us H).get b = some o → H.get b = some o ∧ ∀ x ∈ us, ¬ Tch x b
  | [], H, b, o, _, h => ⟨h, by simp⟩
  | x :: r, H, b, o, hc, h => by
    obtain ⟨h1, h2⟩ := maskH_ok (us := r) (fun y hy => hc y (List.mem_cons_of_mem _ hy)) h
    obtain ⟨h3, h4⟩ := delR_ok h1
    obtain ⟨h5, h6⟩ := delL_ok h3
    have hx := hc x List.mem_cons_self
    refine ⟨h5, fun y hy => ?_⟩
    rcases List.mem_cons.1 hy with rfl | hy
    · rintro (h7 | h7)
      · exact h6 h7
      · refine h4 ⟨h7.1, ?_⟩
        show b < y.c + (y.c' - y.c)
        omega
    · exact h2 y hy
theorem full_ok {us : List Rec} {op : Op} (h : full us op = true) : us = [] := by
  unfold full at h
  split at h
  · rfl
  · cases h
theorem maskM_ok {us : List Rec} {F : Fm} {H : PT Ob} {op : Op} {b : Nat} {o : Ob} (hc : ∀ x ∈ us, x.c ≤ x.c') (h : (maskM us F H op).get b = some o) : H.get b = some o ∧ ∀ x ∈ us, ¬ Tch x b := by
  unfold maskM at h
  split at h
  · rename_i hf
    rw [full_ok hf]
    exact ⟨h, by simp⟩
  · split at h
    · rw [PT.get_e] at h; cases h
    · split at h
      · split at h
        · rename_i b' off _
          by_cases e : b = b'
          · subst e
            rw [PT.put_same] at h
            exact maskH_ok hc h
          · rw [PT.put_other _ _ e, PT.get_e] at h; cases h
        · rw [PT.get_e] at h; cases h
      · exact maskH_ok hc h
theorem cpL_ok {K : PT Ob} : ∀ {l : List Nat} {H : PT Ob} {b : Nat}, (cpL K H l).get b = if b ∈ l then K.get b else H.get b
  | [], H, b => by simp [cpL]
  | x :: r, H, b => by
    show (cpL K (H.put x (K.get x)) r).get b = _
    rw [cpL_ok]
    by_cases e : b = x
    · subst e; rw [PT.put_same]; simp
    · rw [PT.put_other _ _ e]; simp [e]
theorem cpR_ok {K : PT Ob} : ∀ {k c : Nat} {H : PT Ob} {b : Nat}, (cpR K H k c).get b = if c ≤ b ∧ b < c + k then K.get b else H.get b
  | 0, c, H, b => by
    rw [if_neg (by omega)]; rfl
  | k + 1, c, H, b => by
    show (cpR K (H.put c (K.get c)) k (c + 1)).get b = _
    rw [cpR_ok]
    by_cases e : b = c
    · subst e
      rw [PT.put_same, if_pos (by omega : b ≤ b ∧ b < b + (k + 1))]
      split <;> rfl
    · rw [PT.put_other _ _ e]
      by_cases h : c + 1 ≤ b ∧ b < c + 1 + k
      · rw [if_pos h, if_pos (by omega)]
      · rw [if_neg h, if_neg (by omega)]
theorem merge_ok {fl : Bool} {H K : PT Ob} {r : Rec} {c : Nat} (hc : c ≤ r.c') (hr : r.c = c) (hs : fl = true → ∀ b, ¬ Tch r b → K.get b = H.get b) (b : Nat) : (merge fl H K r.wl c r.c').get b = if Tch r b then K.get b else H.get b := by
  unfold merge
  split
  · split
    · rfl
    · exact hs rfl b ‹_›
  · rw [cpR_ok, cpL_ok]
    subst hr
    by_cases h1 : r.c ≤ b ∧ b < r.c'
    · rw [if_pos (⟨h1.1, by show b < r.c + (r.c' - r.c); omega⟩), if_pos (show Tch r b from .inr h1)]
    · rw [if_neg (fun h => h1 ⟨h.1, by have : b < r.c + (r.c' - r.c) := h.2; omega⟩)]
      by_cases h2 : b ∈ r.wl
      · rw [if_pos h2, if_pos (show Tch r b from .inl h2)]
      · rw [if_neg h2, if_neg (show ¬ Tch r b by rintro (h | h) <;> contradiction)]
theorem anyB_ok {H : PT Ob} : ∀ {l : List Nat}, anyB H l = false → ∀ b ∈ l, H.get b = none
  | [], h, b, hb => by cases hb
  | x :: r, h, b, hb => by
    unfold anyB at h
    split at h <;> first | (cases h; done) | skip
    rename_i hx
    rcases List.mem_cons.1 hb with rfl | hb
    · unfold hasB at hx
      split at hx
      · cases hx
      · assumption
    · exact anyB_ok h b hb
theorem clash_ok : ∀ {us : List Rec} {wl : List Nat}, clash us wl = false → ∀ x ∈ us, ∀ b ∈ wl, x.H.get b = none
  | [], wl, h, x, hx => by cases hx
  | y :: r, wl, h, x, hx => by
    unfold clash at h
    split at h <;> first | (cases h; done) | skip
    rename_i hy
    rcases List.mem_cons.1 hx with rfl | hx
    · exact anyB_ok hy
    · exact clash_ok h x hx
theorem clean_ok : ∀ {l : List Oper} {F : Fm}, (∀ t v, (clean l F).get t = some v → F.get t = some v) ∧ ∀ o ∈ l, ∀ t, o.dst = some t → (clean l F).get t = none
  | [], F => ⟨fun t v h => h, fun o ho => by cases ho⟩
  | o :: r, F => by
    unfold clean
    split
    · rename_i d hd
      obtain ⟨h1, h2⟩ := clean_ok (l := r) (F := F.put d none)
      refine ⟨fun t v h => ?_, fun o' ho' t ht => ?_⟩
      · have := h1 t v h
        by_cases e : t = d
        · subst e; rw [Fm.put_same] at this; cases this
        · rw [Fm.put_other _ _ e] at this; exact this
      · rcases List.mem_cons.1 ho' with rfl | ho'
        · rw [hd] at ht
          injection ht with ht
          subst ht
          cases e : (clean r (F.put d none)).get d with
          | none => rfl
          | some v =>
            have := h1 d v e
            rw [Fm.put_same] at this
            cases this
        · exact h2 o' ho' t ht
    · rename_i hd
      obtain ⟨h1, h2⟩ := clean_ok (l := r) (F := F)
      refine ⟨h1, fun o' ho' t ht => ?_⟩
      rcases List.mem_cons.1 ho' with rfl | ho'
      · rw [hd] at ht; cases ht
      · exact h2 o' ho' t ht
theorem least : ∀ {L : List Nat}, L ≠ [] → ∃ i ∈ L, ∀ k ∈ L, i ≤ k
  | [], h => absurd rfl h
  | x :: r, h => by
    by_cases hr : r = []
    · subst hr; exact ⟨x, List.mem_cons_self, fun k hk => by simp at hk; omega⟩
    · obtain ⟨i, h1, h2⟩ := least hr
      by_cases hx : x ≤ i
      · refine ⟨x, List.mem_cons_self, fun k hk => ?_⟩
        rcases List.mem_cons.1 hk with rfl | hk
        · exact Nat.le_refl _
        · exact Nat.le_trans hx (h2 k hk)
      · refine ⟨i, List.mem_cons_of_mem _ h1, fun k hk => ?_⟩
        rcases List.mem_cons.1 hk with rfl | hk
        · omega
        · exact h2 k hk
section
variable {P : Program} {ρ : Rho} {n : Nat} {ops : Array Oper} {F0 : Nat → Option V} {H0 : Nat → Option Ob} {c0 : Nat} {wl0 : List Nat}
theorem reg_all {w0 ws : World} {E0 : Env} {es : List En} {Q : Exit → Act → World → Prop} (ht : Tr P ρ n ops F0 H0 c0 es) (hl : es.length = ops.size) (hap : Apart H0 c0 (cAt c0 es)) (hf0 : Fresh E0 c0 (cAt c0 es)) (hF0 : ∀ (i : Nat) (o : Oper) (t : Nat), ops[i]? = some o → o.dst = some t → F0 t = none)
    (hQ : ∀ E a w, Rel ρ n F0 H0 c0 wl0 w0 ws E0 es All E a w → Q .normal a w) : ∀ (fuel : Nat) (listed : Array Bool) (L : List Nat) (E : Env) (a : Act) (w : World), listed.size = ops.size → L.Nodup → L.length = fuel → (∀ i, i < ops.size → (listed.getD i true = false ↔ i ∈ L)) → (∀ i ∈ L, i < ops.size) →
      Cl es (fun i => listed.getD i true) → Rel ρ n F0 H0 c0 wl0 w0 ws E0 es (fun i => listed.getD i true) E a w → wpAny P .any ops Q fuel listed a w := by
  intro fuel
  induction fuel with
  | zero =>
    intro listed L E a w hsz hnd hlen hL hLt hc hr
    have hnil : L = [] := List.length_eq_zero_iff.1 hlen
    have hall : (fun i => listed.getD i true) = All := by
      funext i
      by_cases hi : i < ops.size
      · cases h : listed.getD i true with
        | true => rfl
        | false => have := (hL i hi).1 h; rw [hnil] at this; cases this
      · show listed.getD i true = true
        rw [Array.getD_eq_getD_getElem?, Array.getElem?_eq_none (by omega)]
        rfl
    refine ⟨?_, hQ E a w (by rw [← hall]; exact hr)⟩
    cases h : Region.ready .any ops listed with
    | nil => rfl
    | cons j r =>
      have hj : j ∈ Region.ready .any ops listed := by rw [h]; exact List.mem_cons_self
      obtain ⟨h1, o, h2, _⟩ := mem_ready.1 hj
      have := (hL j (Array.getElem?_eq_some_iff.1 h2).1).1 h1
      rw [hnil] at this
      cases this
  | succ fuel ih =>
    intro listed L E a w hsz hnd hlen hL hLt hc hr
    refine ⟨fun h0 => ?_, fun j hj => ?_⟩
    · exfalso
      obtain ⟨i, h1, h2⟩ := least (L := L) (by intro h; rw [h] at hlen; cases hlen)
      have hi := hLt i h1
      obtain ⟨e, he⟩ := atI_some (es := es) (i := i) (by omega)
      obtain ⟨r, k1, k2, k3, q, k4⟩ := ht.at_ he
      have : i ∈ Region.ready .any ops listed := by
        refine mem_ready.2 ⟨(hL i hi).2 h1, e.o, by rw [← k2]; exact k1.at_, fun x hx hb => ?_⟩
        have hlt := k1.aft x hx hb
        have hxs : x.on < listed.size := by omega
        have : listed.getD x.on true = true := by
          cases h : listed.getD x.on true with
          | true => rfl
          | false => have := h2 _ ((hL x.on (by omega)).1 h); omega
        rw [Array.getD_eq_getD_getElem?, Array.getElem?_eq_getElem hxs] at this ⊢
        exact this
      rw [h0] at this
      cases this
    · obtain ⟨hD, o, ho, hall⟩ := mem_ready.1 hj
      have hjlt := (Array.getElem?_eq_some_iff.1 ho).1
      obtain ⟨e, he⟩ := atI_some (es := es) (i := j) (by omega)
      obtain ⟨r, k1, k2, k3, q, k4⟩ := ht.at_ he
      have heo : e.o = o := by
        have := k1.at_
        rw [k2, ho] at this
        injection this with this
        exact this.symm
      have hset : (fun i => (listed.setIfInBounds j true).getD i true) = add (fun i => listed.getD i true) j := by
        funext i
        show _ = if i = j then true else listed.getD i true
        by_cases hij : i = j
        · rw [if_pos hij, hij, Array.getD_eq_getD_getElem?, Array.getElem?_setIfInBounds_self_of_lt (by omega)]; rfl
        · rw [if_neg hij, Array.getD_eq_getD_getElem?, Array.getElem?_setIfInBounds_ne (fun h => hij h.symm), ← Array.getD_eq_getD_getElem?]
      have hpre : ∀ i, bit e.r.pre i → listed.getD i true = true := by
        intro i hi
        obtain ⟨hlt, x, hx, hb, h⟩ := k1.pre i hi
        rw [heo] at hx
        have h1 := hall x hx hb
        have hxl : listed.getD x.on true = true := by
          rw [Array.getD_eq_getD_getElem?] at h1 ⊢
          cases h2 : listed[x.on]? with
          | none => rfl
          | some y => rw [h2] at h1; exact h1
        rcases h with rfl | ⟨e', h3, h4⟩
        · exact hxl
        · refine hc x.on e' ?_ hxl i h4
          rw [k4]
          rw [atI_app (by have := atI_lt h3; simp; omega)]
          exact atI_cons h3
      refine hr.step ht hap hf0 hF0 hc he hD hpre (fun E' a' w' hr' => ?_)
      refine ih _ (L.erase j) E' a' w' (by simp [hsz]) (hnd.erase j) ?_ (fun i hi => ?_) (fun i hi => hLt i (List.mem_of_mem_erase hi)) ?_ (by rw [hset]; exact hr')
      · rw [List.length_erase_of_mem ((hL j hjlt).1 hD), hlen]; rfl
      · rw [hnd.mem_erase_iff]
        have := congrFun hset i
        rw [show (listed.setIfInBounds j true).getD i true = add (fun i => listed.getD i true) j i from this]
        show (if i = j then true else listed.getD i true) = false ↔ _
        by_cases hij : i = j
        · simp [hij]
        · rw [if_neg hij, hL i hi]; simp [hij]
      · rw [hset]
        intro k ek hk hDk i hi
        show (if i = j then true else listed.getD i true) = true
        by_cases hij : i = j
        · rw [if_pos hij]
        · rw [if_neg hij]
          by_cases hkj : k = j
          · subst hkj
            rw [he] at hk
            injection hk with hk
            subst hk
            exact hpre i hi
          · have hDk : (if k = j then true else listed.getD k true) = true := hDk
            rw [if_neg hkj] at hDk
            exact hc k ek hk hDk i hi
end
end Go.Run
namespace Go.Run
open Go.Eng
set_option linter.unusedVariables false
set_option linter.unusedSimpArgs false
def Qx (e : Ex) (Q : Exit → Act → World → Prop) (a : Act) (w : World) : Prop := match e with
  | .nx => Q .normal a w
  | .ret => Q .ret a w
  | .ex i => Q (.exit i) a w
  | _ => False
def To (w0 : World) (E : Env) (m : Mm) (n : Nat) (w : World) (s' : St) (K : Act → World → Prop) : Prop :=
  ∀ E' a' w', Nx w0 E m.H.get m.c w E' s'.m.H.get s'.m.c s'.m.wl w' → FA E' s'.F n a' → K a' w'
theorem To.trans {w0 : World} {E E1 : Env} {m m1 : Mm} {n : Nat} {w w1 : World} {s' : St} {K : Act → World → Prop} (h : To w0 E m n w s' K) (h1 : Nx w0 E m.H.get m.c w E1 m1.H.get m1.c m1.wl w1) (S1 : Sta m m1) (S2 : Sta m1 s'.m) (hf : Fresh E m.c s'.m.c) : To w0 E1 m1 n w1 s' K :=
  fun E' a' w' hn hfa => h E' a' w' (h1.trans hn S2.wl hf S1.le S2.le) hfa
abbrev WP := (Exit → Act → World → Prop) → Act → World → Prop
def RC (ρ : Rho) (n : Nat) (F : Fm) (m : Mm) (W : WP) (e : Ex) (s' : St) : Prop :=
  ∀ (w0 : World) (E : Env) (a : Act) (w : World) (Q : Exit → Act → World → Prop), E.ρ = ρ → FA E F n a → Wr w0 E m.H.get w → Fresh E m.c s'.m.c → NP Q → To w0 E m n w s' (Qx e Q) → W Q a w
theorem RC.seq {ρ : Rho} {n : Nat} {F : Fm} {m : Mm} {W1 W2 W : WP} {s1 s2 : St} {e : Ex} (h1 : RC ρ n F m W1 .nx s1) (S1 : Sta m s1.m) (h2 : RC ρ n s1.F s1.m W2 e s2) (S2 : Sta s1.m s2.m) (hW : ∀ Q a w, W1 (Exit.then (W2 Q) Q) a w → W Q a w) : RC ρ n F m W e s2 := by
  intro w0 E a w Q hρ hfa hw hf np hto
  refine hW Q a w (h1 w0 E a w _ hρ hfa hw (hf.sub (Nat.le_refl _) S2.le) (np_then np) (fun E' a' w' hn hfa' => ?_))
  exact h2 w0 E' a' w' Q (hn.ext.ρ.trans hρ) hfa' hn.wr (hn.fresh hf S1.le) np (hto.trans hn S1 S2 hf)
theorem RC.early {ρ : Rho} {n : Nat} {F : Fm} {m : Mm} {W1 W : WP} {s1 : St} {e : Ex} {K : (Exit → Act → World → Prop) → Act → World → Prop} (h1 : RC ρ n F m W1 e s1) (he : e ≠ .nx) (hW : ∀ Q a w, W1 (Exit.then (K Q) Q) a w → W Q a w) : RC ρ n F m W e s1 := by
  intro w0 E a w Q hρ hfa hw hf np hto
  refine hW Q a w (h1 w0 E a w _ hρ hfa hw hf (np_then np) (fun E' a' w' hn hfa' => ?_))
  have := hto E' a' w' hn hfa'
  cases e with
  | nx => exact absurd rfl he
  | ret => exact this
  | ex i => exact this
  | val v => exact this
  | pan => exact this
def RF (P : Program) (ρ : Rho) (g : Nat) (xs : List V) (m : Mm) (e : Ex) (s' : St) : Prop :=
  ∃ v, e = .val v ∧ (∃ fn, P.funcs[g]? = some fn ∧ fn.body.isNone = false) ∧ ∀ (w0 : World) (E : Env) (us : List Value) (w : World) (K : Ending → World → Prop), E.ρ = ρ → VRs E xs us → Wr w0 E m.H.get w → Fresh E m.c s'.m.c →
    (∀ E' u w', Nx w0 E m.H.get m.c w E' s'.m.H.get s'.m.c s'.m.wl w' → VR E' v u → K (.returned u) w') → Calls P g us.toArray w K
def SF (P : Program) (O : Ora) (ρ : Rho) (f : Nat) : Prop := ∀ g xs m ls, go P O f (.call g xs m) = some ls → PC ρ m.pc → Good ρ m ls (RF P ρ g xs m)
def OraOK (P : Program) (O : Ora) (ρ : Rho) : Prop := ∀ g xs m ls, O.f g xs m = some ls → PC ρ m.pc → Good ρ m ls (RF P ρ g xs m)
def RS (P : Program) (ρ : Rho) (n : Nat) (o : Oper) (F : Fm) (m : Mm) (e : Ex) (s' : St) : Prop := ∃ v, e = .val v ∧ OpS P ρ n F m.H m.c s'.m.H s'.m.c s'.m.wl v o
theorem folv_ok {P : Program} {E : Env} {g : Nat} {w : World} : ∀ {path : List FieldStep} {b off : Nat} {t xt : TypeId} {b' off' : Nat}, folv P path b off t = some (xt, b', off') → E.ν b = some g → E.ν b' = some g ∧ (follow path t (.var ⟨g, off, none⟩)).run P w = .ok (xt, .var ⟨g, off', none⟩) w
  | [], b, off, t, xt, b', off', h, hg => by
    cases h
    exact ⟨hg, by simp [follow]⟩
  | s :: r, b, off, t, xt, b', off', h, hg => by
    unfold folv at h
    split at h <;> first | (cases h; done) | skip
    rename_i f hd hf
    split at h <;> first | (cases h; done) | skip
    rename_i m hm
    obtain ⟨fs, h1, h2⟩ := fdv_ok hf
    obtain ⟨h3, h4⟩ := folv_ok (w := w) h hg
    refine ⟨h3, ?_⟩
    rw [follow]
    simp only [Sem.run_bind, Sem.run_pure, Result.andThen_ok, run_underlying h1, h2, hd, Bool.false_eq_true, if_false, fieldPlace, run_size (szv_ok hm), Nat.add_eq_zero_iff, Nat.succ_ne_zero, Nat.one_ne_zero, and_false, addr_add]
    exact h4
theorem method_ok {P : Program} {E : Env} {t : TypeId} {v r : V} {vv : Value} {m : String} {i : TypeInfo} {q : Method} {f : FuncId} {w : World} (hi : P.info? t = some i) (hq : i.methods.toList.find? (fun q => q.name == m) = some q) (hf : q.func = some (f, true)) (hr : recvV P t v q.path.toList = some r) (hv : VR E v vv) :
    ∃ rr, VR E r rr ∧ (method (P.types.size + Made.depth) t vv m).run P w = .ok (f, rr) w := by
  obtain ⟨k, hk⟩ : ∃ k, P.types.size + Made.depth = k + 1 := Nat.exists_eq_succ_of_ne_zero (by unfold Made.depth; omega)
  have hq' : i.methods.find? (fun q => q.name == m) = some q := by rw [← Array.find?_toList]; exact hq
  have hti : (typeInfo t).run P w = .ok i w := by unfold typeInfo; simp [program, Sem.run, hi]
  unfold recvV at hr
  split at hr
  · rename_i hp
    split at hr <;> first | (cases hr; done) | skip
    rename_i e hd
    cases hr
    refine ⟨vv, hv, ?_⟩
    rw [hk, method]
    simp [Sem.run_bind, hti, hq', hp, follow, hf, receiverAt, run_underlying hd, Place.get]
  · rename_i s rp hp
    split at hr <;> first | (cases hr; done) | skip
    rename_i b off f' hsd hfd
    split at hr <;> first | (cases hr; done) | skip
    rename_i mm hm
    split at hr <;> first | (cases hr; done) | skip
    rename_i xt b' off' hfo
    obtain ⟨g, hg, rfl⟩ := hv
    obtain ⟨h3, h4⟩ := folv_ok (w := w) hfo hg
    obtain ⟨fs, h1, h2⟩ := fdv_ok hfd
    split at hr <;> first | (cases hr; done) | skip
    rename_i d hne hd
    cases hr
    refine ⟨.pointer (some ⟨g, off', none⟩), ⟨g, h3, rfl⟩, ?_⟩
    have hfol : (follow q.path.toList t (.val (.pointer (some ⟨g, off, none⟩)))).run P w = .ok (xt, .var ⟨g, off', none⟩) w := by
      rw [hp, follow]
      simp only [Sem.run_bind, Sem.run_pure, Result.andThen_ok, run_underlying h1, h2, hsd, if_true, Place.get, asAddr, fieldPlace, run_size (szv_ok hm), Nat.add_eq_zero_iff, Nat.succ_ne_zero, Nat.one_ne_zero, and_false, if_false, addr_add]
      exact h4
    have hrec : ∀ wr, (receiverAt xt (.var ⟨g, off', none⟩) true wr).run P w = .ok (.pointer (some ⟨g, off', none⟩)) w := fun wr => by
      unfold receiverAt
      rw [Sem.run_bind, run_underlying hd]
      cases d <;> first | exact absurd rfl (hne _) | simp
    rw [hk, method]
    simp only [Sem.run_bind, hti, Result.andThen_ok, hq', hfol, hf, hrec, Sem.run_pure]
theorem step1_eq (P : Program) (run : Task → Option Lv) (o : Oper) (s : St) : step1 P run o s = match qk o.op with
  | true => needs s.m (fun m => match qop P s.F m.H o.op with
    | some (v, _) => some [(.val v, ⟨.nil, m⟩)]
    | none => none) (qneed s.F o.op)
  | false => match o.op with
    | .call c => match c.callee with
      | .builtin _ => match eop P s.F s.m o.dst (.call c) with
        | some (v, m) => some [(.val v, ⟨.nil, m⟩)]
        | none => none
      | _ => match target P s.F c with
        | some (f, xs) => run (.call f xs s.m)
        | none => none
    | op => match eop P s.F s.m o.dst op with
      | some (v, m) => some [(.val v, ⟨.nil, m⟩)]
      | none => none := by
  obtain ⟨F, m⟩ := s
  have hq : s_q P F o.op = fun m => match qop P F m.H o.op with
    | some (v, _) => some [(.val v, ⟨.nil, m⟩)]
    | none => none := by
    funext m
    unfold s_q
    simp only [qopK_eq]
    rfl
  have he : ∀ op, s_e P F m o.dst op = match eop P F m o.dst op with
    | some (v, m) => some [(.val v, ⟨.nil, m⟩)]
    | none => none := fun op => by
    unfold s_e
    simp only [eopK_eq]
    rfl
  unfold step1
  simp only [hq, he, qneedK_eq]
  cases qk o.op with
  | true => rfl
  | false =>
    cases o.op <;> first
      | rfl
      | (rename_i c; show s_call P run F m o.dst c = _; unfold s_call; simp only [he]; cases c.callee <;> rfl)
theorem step1_ok {P : Program} {O : Ora} {ρ : Rho} {f : Nat} (hng : ∀ (g : Nat) (fn : Func), P.funcs[g]? = some fn → (fn.name == "runtime.NumGoroutine") = false) (hf : SF P O ρ f) {n : Nat} {o : Oper} {s : St} {ls : Lv} (h : step1 P (go P O f) o s = some ls) (hp : PC ρ s.m.pc) : Good ρ s.m ls (RS P ρ n o s.F s.m) := by
  rw [step1_eq] at h
  split at h
  · refine needs_ok h hp (fun pc rs' h1 hp1 hneed => ?_)
    split at h1 <;> first | (cases h1; done) | skip
    rename_i v rd hq
    cases h1
    refine Good.one hp1 (Sta.wpc s.m pc) ⟨v, rfl, fun w0 E a w k Q hρ ⟨FL, hfr, hF⟩ hw hfs hk => ?_⟩
    obtain ⟨u, hu, hr⟩ := qop_ok (by rw [hρ]; exact hneed) hq rfl hF hfr hw
    exact Does.wp (.inl (hr w (fun _ _ _ _ => rfl))) (hk E u w (Nx.refl hw _ _) hu)
  · have eff : ∀ op v m', o.op = op → eop P s.F s.m o.dst op = some (v, m') → Good ρ s.m [(.val v, ⟨.nil, m'⟩)] (RS P ρ n o s.F s.m) := by
      intro op v m' ho he
      obtain ⟨h1, h2⟩ := eop_sta he
      refine Good.one (by show PC ρ m'.pc; rw [h2]; exact hp) h1 ⟨v, rfl, fun w0 E a w k Q hρ ⟨FL, hfr, hF⟩ hw hfs hk => ?_⟩
      obtain ⟨u, w', E', h3, h4, h5⟩ := eop_ok hF hfr hw ho he hfs
      exact h3.wp (hk E' u w' h4 h5)
    split at h
    · rename_i c ho
      split at h
      · split at h <;> first | (cases h; done) | skip
        rename_i v m' he
        cases h
        exact eff _ v m' ho he
      · rename_i hnb
        split at h <;> first | (cases h; done) | skip
        rename_i g xs ht
        refine (hf _ _ _ _ h hp).mono (fun e s1 hs ⟨v, he, ⟨fn, q2, q3⟩, q5⟩ => ⟨v, he, fun w0 E a w k Q hρ ⟨FL, hfr, hF⟩ hw hfs hk => ?_⟩)
        have fin : ∀ us : List Value, VRs E xs us → (execOp a.eval o).run P w = .ok (.enter g us.toArray) w → o.wp P a w k Q := by
          intro us hus hrun
          unfold Oper.wp
          rw [hrun, Oper.upon_enter]
          exact q5 w0 E _ w _ hρ hus hw hfs (fun E' u w' hn hu => hk E' u w' hn hu)
        have hname := hng g fn q2
        unfold target at ht
        split at ht <;> first | (cases ht; done) | skip
        rename_i vs hvs
        obtain ⟨uvs, e1, r1⟩ := eos_ok hF hvs
        have ea : c.args.map a.eval = uvs.toArray := Array.toList_inj.1 (by simpa using hfr.evs e1)
        split at ht <;> first | (cases ht; done) | skip
        · rename_i x hc
          split at ht <;> first | (cases ht; done) | skip
          rename_i g' us cs hx
          cases ht
          obtain ⟨_, e2, uus, ucs, r2, r3, rfl⟩ := eo_ok hF hx
          have hargs : uus.toArray ++ uvs.toArray ++ ucs.toArray = (uus ++ (uvs ++ ucs)).toArray := by simp
          refine fin (uus ++ (uvs ++ ucs)) (by rw [ap_eq, ap_eq]; exact r2.app (r1.app r3)) ?_
          simp only [execOp, ho, resolve, hc, ea, hfr.ev e2, Deferred.ofValue, Sem.run_bind, Sem.run_pure, Result.andThen_ok, invoke, hargs, run_callFunc q2 q3 hname]
        · rename_i x m hc
          split at ht <;> first | (cases ht; done) | skip
          rename_i t v hx
          split at ht <;> first | (cases ht; done) | skip
          rename_i i hi
          split at ht <;> first | (cases ht; done) | skip
          rename_i q hq
          split at ht <;> first | (cases ht; done) | skip
          rename_i f' r hqf hrv
          cases ht
          obtain ⟨_, e2, vv, r2, rfl⟩ := eo_ok hF hx
          obtain ⟨rr, r3, r4⟩ := method_ok (w := w) hi hq hqf hrv r2
          refine fin (rr :: uvs) ⟨rr, uvs, r3, r1, rfl⟩ ?_
          have hext : (#[Value.iface t vv] ++ uvs.toArray).extract 1 (#[Value.iface t vv] ++ uvs.toArray).size = uvs.toArray := by
            apply Array.toList_inj.1
            simp
          have h0 : (#[Value.iface t vv] ++ uvs.toArray)[0]? = some (.iface t vv) := by simp
          have hargs : #[rr] ++ uvs.toArray = (rr :: uvs).toArray := by simp
          have hpg : (program).run P w = .ok P w := by simp [program, Sem.run]
          simp only [execOp, ho, resolve, hc, ea, hfr.ev e2, Sem.run_bind, Sem.run_pure, Result.andThen_ok, invoke, h0, hext, callMethod, hpg, r4, hargs, run_callFunc q2 q3 hname]
    · split at h <;> first | (cases h; done) | skip
      rename_i v m' he
      cases h
      exact eff _ v m' rfl he
end Go.Run
namespace Go.Run
open Go.Eng
set_option linter.unusedVariables false
set_option linter.unusedSimpArgs false
def SC (P : Program) (O : Ora) (ρ : Rho) (f : Nat) : Prop := ∀ n c s ls, go P O f (.code n c s) = some ls → PC ρ s.m.pc → Good ρ s.m ls (RC ρ n s.F s.m (c.wp P))
def SL (P : Program) (O : Ora) (ρ : Rho) (f : Nat) : Prop := ∀ n c s ls, go P O f (.code n (.loop c) s) = some ls → PC ρ s.m.pc → Good ρ s.m ls (RC ρ n s.F s.m (fun Q a w => Code.rounds P c Q f a w))
def SO (P : Program) (O : Ora) (ρ : Rho) (f : Nat) : Prop := ∀ n (ops : Array Oper) k s ls, go P O f (.ord n ops.toList (ops.toList.drop k) s) = some ls → PC ρ s.m.pc → Good ρ s.m ls (fun e s' => e = .nx ∧ RC ρ n s.F s.m (fun Q a w => wpOps P ops Q (List.range' k (ops.size - k)) a w) e s')
def SA (P : Program) (O : Ora) (ρ : Rho) (f : Nat) : Prop := ∀ n (ops : Array Oper) (m0 : Mm) F0 es s ls, go P O f (.reg n ops.toList (ops.toList.drop es.length) (es.map (·.r)) s) = some ls → PC ρ s.m.pc → Tr P ρ n ops F0 m0.H.get m0.c es →
  (∀ t, s.F.get t = FD All F0 es t) → (∀ b, s.m.H.get b = HD All m0.H.get es b) → s.m.c = cAt m0.c es → s.m.wl = wlAt m0.wl es →
  Good ρ m0 ls (fun e s' => e = .nx ∧ ∃ es', Tr P ρ n ops F0 m0.H.get m0.c es' ∧ es'.length = ops.size ∧ (∀ t, s'.F.get t = FD All F0 es' t) ∧ (∀ b, s'.m.H.get b = HD All m0.H.get es' b) ∧ s'.m.c = cAt m0.c es' ∧ s'.m.wl = wlAt m0.wl es')
theorem put_m (s : St) (d : Option Nat) (v : V) : (s.put d v).m = s.m := by cases d <;> rfl
theorem dOk_put {E E' : Env} {s : St} {n : Nat} {a : Act} {o : Oper} {v : V} {u : Value} (hfa : FA E s.F n a) (hx : Ext E E') (hd : dOk n o.dst = true) (hv : VR E' v u) : FA E' (s.put o.dst v).F n (a.put o.dst u) := by
  obtain ⟨FL, hfr, hF⟩ := hfa
  cases h : o.dst with
  | none => exact ⟨FL, hfr.putNone u, hF.mono hx⟩
  | some d => rw [h] at hd; exact ⟨_, hfr.put (blt_lt hd) u, (hF.mono hx).put d hv⟩
section
variable {P : Program} {O : Ora} {ρ : Rho} {f : Nat}
theorem go_ord (n : Nat) (all rest : List Oper) (s : St) : go P O (f + 1) (.ord n all rest s) = match rest with
    | [] => some [(.nx, s)]
    | o :: r => match dOk n o.dst, gv all s.F o.guard with
      | true, some true => match step1 P (go P O f) o s with
        | some l => bindL (fun e s' => match e with
          | .val v => forkB all o.dst v s'.m (fun v m => go P O f (.ord n all r (St.put ⟨s.F, m⟩ o.dst v)))
          | .pan => some [(.pan, s')]
          | _ => none) l
        | none => none
      | true, some false => go P O f (.ord n all r (s.put o.dst .und))
      | _, _ => none := rfl
theorem so_step (hng : ∀ (g : Nat) (fn : Func), P.funcs[g]? = some fn → (fn.name == "runtime.NumGoroutine") = false) (hO : SO P O ρ f) (hF : SF P O ρ f) : SO P O ρ (f + 1) := by
  intro n ops k s ls h hp
  rw [go_ord] at h
  split at h
  · rename_i hd
    cases h
    refine Good.one hp (Sta.refl _) ⟨rfl, fun w0 E a w Q hρ hfa hw hf np hto => ?_⟩
    have hk : ops.size - k = 0 := by
      have := congrArg List.length hd
      simpa using this
    rw [hk]
    exact hto E a w (Nx.refl hw _ _) hfa
  · rename_i o r hd
    have hok : ops[k]? = some o := by
      have := congrArg (·[0]?) hd
      simpa using this
    have hr : r = ops.toList.drop (k + 1) := by rw [← List.drop_drop (i := 1) (j := k), hd]; rfl
    have hlt : k < ops.size := (Array.getElem?_eq_some_iff.1 hok).1
    have hrg : List.range' k (ops.size - k) = k :: List.range' (k + 1) (ops.size - (k + 1)) := by
      rw [show ops.size - k = (ops.size - (k + 1)) + 1 by omega, List.range'_succ]
    subst hr
    split at h <;> first | (cases h; done) | skip
    · rename_i hdk hg
      split at h <;> first | (cases h; done) | skip
      rename_i l h1
      refine (step1_ok (n := n) hng hF h1 hp).bind h (fun s r hr => by cases hr; rfl) (fun e s1 rs hk hp1 S1 hrs => ?_)
      obtain ⟨v, rfl, hop⟩ := hrs
      refine forkB_ok hk hp1 (fun v' pc rs' h2 hpc hv => ?_)
      have ih := hO n ops (k + 1) _ rs' h2 (by rw [put_m]; exact hpc)
      rw [put_m] at ih
      refine (ih.mono (fun e s2 S2 ⟨he, hrc⟩ => ⟨he, ?_⟩)).from (S1.trans (Sta.wpc _ _))
      intro w0 E a w Q hρ hfa hw hf np hto
      show wpOps P ops Q (List.range' k (ops.size - k)) a w
      rw [hrg]
      simp only [wpOps, hok]
      obtain ⟨FL, hfr, hF'⟩ := hfa
      rw [if_pos (gv_ok hF' hfr hg)]
      refine .inl (hop w0 E a w _ Q hρ ⟨FL, hfr, hF'⟩ hw (hf.sub (Nat.le_refl _) S2.le) (fun E' u w' hn hu => ?_))
      exact hrc w0 E' _ w' Q (hn.ext.ρ.trans hρ) (dOk_put ⟨FL, hfr, hF'⟩ hn.ext hdk (hv E' u (hn.ext.ρ.trans hρ) hu)) hn.wr (hn.fresh hf S1.le) np (hto.trans hn (S1.trans (Sta.wpc _ pc)) S2 hf)
    · rename_i hdk hg
      have ih := hO n ops (k + 1) _ ls h (by rw [put_m]; exact hp)
      rw [put_m] at ih
      refine ih.mono (fun e s2 S2 ⟨he, hrc⟩ => ⟨he, ?_⟩)
      intro w0 E a w Q hρ hfa hw hf np hto
      show wpOps P ops Q (List.range' k (ops.size - k)) a w
      rw [hrg]
      simp only [wpOps, hok]
      obtain ⟨FL, hfr, hF'⟩ := hfa
      rw [if_neg (by rw [gv_ok hF' hfr hg]; decide)]
      exact hrc w0 E _ w Q hρ (dOk_put ⟨FL, hfr, hF'⟩ (Ext.refl E) hdk rfl) hw hf np hto
theorem go_reg (n : Nat) (all rest : List Oper) (rs : List Rec) (s : St) : go P O (f + 1) (.reg n all rest rs s) = match rest with
    | [] => some [(.nx, s)]
    | o :: r => match preM rs (ln rs) o.after.toList 0, dOk n o.dst, (match o.dst with | some d => isD rs d | none => false) with
      | some pre, true, false => regOp P (go P O f) n all r o rs s pre (outs rs (ln rs) pre) (maskF (outs rs (ln rs) pre) s.F (ap (gTmp all o.guard) (tmpsOf o.op.operands.toList)) .nil)
      | _, _, _ => none := rfl
theorem regOn_eq (run : Task → Option Lv) (n : Nat) (all r : List Oper) (o : Oper) (rs : List Rec) (s : St) (pre : Nat) (us : List Rec) (F : Fm) (K : PT Ob) : regOn P run n all r o rs s pre us F K =
  match step1 P run o ⟨F, ⟨K, s.m.c, [], s.m.pc⟩⟩ with
  | some l => bindL (fun e s' => match e with
    | .val v => match clash us s'.m.wl with
      | true => none
      | false => forkB all o.dst v s'.m (fun v m => run (.reg n all r (⟨o.dst, pre, m.wl, s.m.c, m.c, K⟩ :: rs)
          (St.put ⟨s.F, ⟨merge (full us o.op) s.m.H m.H m.wl s.m.c m.c, m.c, ap m.wl s.m.wl, m.pc⟩⟩ o.dst v)))
    | .pan => some [(.pan, s')]
    | _ => none) l
  | none => none := rfl
theorem regOp_eq (run : Task → Option Lv) (n : Nat) (all r : List Oper) (o : Oper) (rs : List Rec) (s : St) (pre : Nat) (us : List Rec) (F : Fm) : regOp P run n all r o rs s pre us F =
  match gv all F o.guard with
  | some false => run (.reg n all r (⟨o.dst, pre, [], s.m.c, s.m.c, .e⟩ :: rs) (s.put o.dst .und))
  | some true => regOn P run n all r o rs s pre us F (maskM us F s.m.H o.op)
  | none => none := rfl
theorem put_get (s : St) (d : Option Nat) (v : V) (t : Nat) : (s.put d v).F.get t = if d = some t then some v else s.F.get t := by
  cases d with
  | none => simp [St.put]
  | some x =>
    show (s.F.put x (some v)).get t = _
    by_cases h : t = x
    · subst h; rw [Fm.put_same, if_pos rfl]
    · rw [Fm.put_other _ _ h, if_neg (fun e => h (by injection e with e; exact e.symm))]
theorem outs_sub : ∀ {rs : List Rec} {j a : Nat} {x : Rec}, x ∈ outs rs j a → x ∈ rs
  | [], j, a, x, hx => by cases j <;> exact hx
  | y :: r, 0, a, x, hx => by cases hx
  | y :: r, j + 1, a, x, hx => by
    rw [outs_eq] at hx
    split at hx
    · exact List.mem_cons_of_mem _ (outs_sub hx)
    · rcases List.mem_cons.1 hx with rfl | hx
      · exact List.mem_cons_self
      · exact List.mem_cons_of_mem _ (outs_sub hx)
theorem Tr.cc {n : Nat} {ops : Array Oper} {F0 : Nat → Option V} {H0 : Nat → Option Ob} {c0 : Nat} : ∀ {es : List En}, Tr P ρ n ops F0 H0 c0 es → ∀ e ∈ es, e.r.c ≤ e.r.c'
  | [], _, e, he => by cases he
  | e0 :: r, h, e, he => by
    cases h with
    | cons h1 h2 =>
      rcases List.mem_cons.1 he with rfl | he
      · exact h1.cc
      · exact Tr.cc h2 e he
theorem sa_step (hng : ∀ (g : Nat) (fn : Func), P.funcs[g]? = some fn → (fn.name == "runtime.NumGoroutine") = false) (hA : SA P O ρ f) (hF : SF P O ρ f) : SA P O ρ (f + 1) := by
  intro n ops m0 F0 es s ls h hp ht hFe hHe hce hwe
  rw [go_reg] at h
  split at h
  · rename_i hd
    cases h
    have hle : ops.size ≤ es.length := by
      have := congrArg List.length hd
      simp at this
      omega
    have hlen : es.length = ops.size := by
      cases es with
      | nil => exact (Nat.le_zero.1 hle).symm
      | cons e r =>
        cases ht with
        | cons h1 h2 =>
          have := (Array.getElem?_eq_some_iff.1 h1.at_).1
          simp at hle ⊢
          omega
    have hSta : Sta m0 s.m := by
      refine ⟨by rw [hce]; exact cAt_mono ht, fun b hb => ?_, fun b hb => ?_, fun b hb => ?_, fun b hb hr => ?_⟩
      · rw [hwe]
        clear hFe hHe hce hwe hle hlen ht hd
        induction es with
        | nil => exact hb
        | cons e r ih => exact List.mem_append_right _ ih
      · rw [hwe] at hb; rw [hce]; exact wl_live ht hb
      · rw [hHe] at hb; rw [hce]; exact HD_live ht hb
      · rw [hwe] at hb; rw [hce] at hr; rw [hHe]; exact HD_same ht hb hr
    exact Good.one hp hSta ⟨rfl, es, ht, hlen, hFe, hHe, hce, hwe⟩
  · rename_i o r hd
    have hok : ops[es.length]? = some o := by
      have := congrArg (·[0]?) hd
      simpa using this
    have hr : r = ops.toList.drop (es.length + 1) := by rw [← List.drop_drop (i := 1) (j := es.length), hd]; rfl
    subst hr
    rw [ln_eq, List.length_map] at h
    split at h <;> first | (cases h; done) | skip
    rename_i pre hpre hdk hdd
    obtain ⟨p1, p2⟩ := preM_ok hpre
    have hnd : ∀ i e', atI es i = some e' → ∀ t, o.dst = some t → e'.r.dst ≠ some t := by
      intro i e' hi t hdt
      rw [hdt] at hdd
      obtain ⟨_, _, _, _, q, hq⟩ := ht.at_ hi
      exact isD_ok hdd _ (List.mem_map.2 ⟨e', by rw [hq]; simp, rfl⟩)
    have hus : ∀ i e', atI es i = some e' → ¬ bit pre i → e'.r ∈ outs (es.map (·.r)) es.length pre := fun i e' hi hb => outs_ok hi hb
    have husc : ∀ x ∈ outs (es.map (·.r)) es.length pre, x.c ≤ x.c' := by
      intro x hx
      obtain ⟨e', he', rfl⟩ := List.mem_map.1 (outs_sub hx)
      exact Tr.cc ht e' he'
    have hfr : ∀ t v, (maskF (outs (es.map (·.r)) es.length pre) s.F (ap (gTmp ops.toList o.guard) (tmpsOf o.op.operands.toList)) .nil).get t = some v → FD All F0 es t = some v ∧ ∀ i e', atI es i = some e' → ¬ bit pre i → e'.r.dst ≠ some t := by
      intro t v hv
      rcases maskF_ok hv with h1 | ⟨h1, h2⟩
      · rw [show (Fm.nil).get t = none from Fm.get_nil 0 t] at h1; cases h1
      · exact ⟨by rw [← hFe]; exact h1, fun i e' hi hb => h2 _ (hus i e' hi hb)⟩
    have hpre' : ∀ i, bit pre i → i < es.length ∧ ∃ x ∈ o.after, Region.binds .any x = true ∧ (i = x.on ∨ ∃ e', atI es x.on = some e' ∧ bit e'.r.pre i) := by
      intro i hi
      rcases p1 i hi with h1 | ⟨x, hx, hb, h1⟩
      · exact absurd h1 bit_zero
      · have hlt := p2 x hx hb
        refine ⟨?_, x, by simpa using hx, hb, h1⟩
        rcases h1 with rfl | ⟨e', h3, h4⟩
        · exact hlt
        · obtain ⟨r', k1, k2, _⟩ := ht.at_ h3
          have := (k1.pre i h4).1
          omega
    rw [regOp_eq] at h
    split at h <;> first | (cases h; done) | skip
    · rename_i hg
      let e : En := ⟨⟨o.dst, pre, [], s.m.c, s.m.c, .e⟩, o, .und, maskF (outs (es.map (·.r)) es.length pre) s.F (ap (gTmp ops.toList o.guard) (tmpsOf o.op.operands.toList)) .nil, .e, false⟩
      have hnt : ∀ b, ¬ Tch e.r b := by
        rintro b (hb | hb)
        · cases hb
        · have h1 : s.m.c ≤ b := hb.1
          have h2 : b < s.m.c := hb.2
          omega
      have hen : EnOK P ρ n ops F0 m0.H.get m0.c e es := { at_ := hok, dst := rfl, dOk := hdk, pre := hpre', aft := fun x hx hb => p2 x (by simpa using hx) hb, fr := hfr, hp := fun b ob hb => (by have hb : (PT.e : PT Ob).get b = some ob := hb; rw [PT.get_e] at hb; cases hb), cl := fun _ _ _ _ b hb => (by cases hb), nd := fun i e' hi t hdt => hnd i e' hi t hdt, c := hce, cc := Nat.le_refl _, wlive := fun b hb => (by cases hb), live := fun b hb => (by have hb : (PT.e : PT Ob).get b ≠ none := hb; rw [PT.get_e] at hb; exact absurd rfl hb), guard := hg, off := fun _ => ⟨rfl, rfl, rfl⟩, sem := fun h => (by cases h) }
      refine hA n ops m0 F0 (e :: es) _ ls h (by rw [put_m]; exact hp) (.cons hen ht) (fun t => ?_) (fun b => ?_) ?_ ?_
      · rw [put_get]
        show _ = if All es.length = true ∧ o.dst = some t then some .und else FD All F0 es t
        rw [hFe]
        simp [All]
      · rw [put_m]
        show _ = if All es.length = true ∧ Tch e.r b then _ else HD All m0.H.get es b
        rw [if_neg (fun h => hnt b h.2)]
        exact hHe b
      · rw [put_m]; rfl
      · rw [put_m]; exact hwe
    · rename_i hg
      rw [regOn_eq] at h
      split at h <;> first | (cases h; done) | skip
      rename_i l h1
      refine (step1_ok (n := n) hng hF h1 hp).bind h (fun s r hr => by cases hr; rfl) (fun e1 s1 rs hk hp1 S1 hrs => ?_)
      obtain ⟨v, rfl, hop⟩ := hrs
      dsimp only at hk
      split at hk <;> first | (cases hk; done) | skip
      rename_i hcl
      refine forkB_ok hk hp1 (fun v' pc rs' h2 hpc hv => ?_)
      let K := maskM (outs (es.map (·.r)) es.length pre) (maskF (outs (es.map (·.r)) es.length pre) s.F (ap (gTmp ops.toList o.guard) (tmpsOf o.op.operands.toList)) .nil) s.m.H o.op
      let e : En := ⟨⟨o.dst, pre, s1.m.wl, s.m.c, s1.m.c, K⟩, o, v', maskF (outs (es.map (·.r)) es.length pre) s.F (ap (gTmp ops.toList o.guard) (tmpsOf o.op.operands.toList)) .nil, s1.m.H, true⟩
      have hsem : OpS P ρ n e.F e.r.H e.r.c e.K e.r.c' e.r.wl e.v e.o := fun w0 E a w k Q hρ hfa hw hfs hkk => hop w0 E a w k Q hρ hfa hw hfs (fun E' u w' hn hu => hkk E' u w' hn (hv E' u (hn.ext.ρ.trans hρ) hu))
      have hhp : ∀ b ob, e.r.H.get b = some ob → HD All m0.H.get es b = some ob ∧ ∀ i e', atI es i = some e' → ¬ bit pre i → ¬ Tch e'.r b := fun b ob hb => by
        obtain ⟨q1, q2⟩ := maskM_ok husc hb
        exact ⟨by rw [← hHe]; exact q1, fun i e' hi hbi => q2 _ (hus i e' hi hbi)⟩
      have hwl : ∀ b ∈ e.r.wl, e.r.H.get b ≠ none ∨ (e.r.c ≤ b ∧ b < e.r.c') := fun b hb => by
        rcases S1.wlive b hb with h3 | h3 | h3
        · cases h3
        · exact .inl h3
        · exact .inr h3
      have hen : EnOK P ρ n ops F0 m0.H.get m0.c e es := { at_ := hok, dst := rfl, dOk := hdk, pre := hpre', aft := fun x hx hb => p2 x (by simpa using hx) hb, fr := hfr, hp := hhp, cl := fun i e' hi hbi b hb => clash_ok hcl _ (hus i e' hi hbi) b hb, nd := fun i e' hi t hdt => hnd i e' hi t hdt, c := hce, cc := S1.le, wlive := hwl, live := fun b hb => S1.live b hb, guard := hg, off := fun h => (by cases h), sem := fun _ => hsem }
      refine hA n ops m0 F0 (e :: es) _ rs' h2 (by rw [put_m]; exact hpc) (.cons hen ht) (fun t => ?_) (fun b => ?_) ?_ ?_
      · rw [put_get]
        show _ = if All es.length = true ∧ o.dst = some t then some v' else FD All F0 es t
        rw [hFe]
        simp [All]
      · rw [put_m]
        show (merge (full (outs (es.map (·.r)) es.length pre) o.op) s.m.H s1.m.H s1.m.wl s.m.c s1.m.c).get b = if All es.length = true ∧ Tch e.r b then s1.m.H.get b else HD All m0.H.get es b
        rw [merge_ok (r := e.r) S1.le rfl (fun hfl b hnb => ?_), hHe]
        · simp [All]
        · have hK : K = s.m.H := by
            show maskM _ _ _ _ = _
            unfold maskM
            rw [hfl]
          have h5 := S1.same b (fun hm => hnb (.inl hm)) (by
            rcases Nat.lt_or_ge b s.m.c with h6 | h6
            · exact .inl h6
            · rcases Nat.lt_or_ge b s1.m.c with h7 | h7
              · exact absurd (show Tch e.r b from .inr ⟨h6, h7⟩) hnb
              · exact .inr h7)
          rw [h5]
          show K.get b = _
          rw [hK]
      · rw [put_m]; rfl
      · rw [put_m]
        show ap s1.m.wl s.m.wl = s1.m.wl ++ wlAt m0.wl es
        rw [ap_eq, hwe]
end
end Go.Run
namespace Go.Run
open Go.Eng Go.RowKit
set_option linter.unusedVariables false
set_option linter.unusedSimpArgs false
section
variable {P : Program} {O : Ora} {ρ : Rho} {f : Nat}
theorem nx_uni {w0 : World} {E E' : Env} {m m' : Mm} {w w' : World} (hw : Wr w0 E m.H.get w) (hf : Fresh E m.c m'.c) (h : Nx w0 E m.H.get m.c w E' m'.H.get m'.c m'.wl w') (wl : List Nat) : Nx w0 E m.H.get m.c w E' m'.H.get m'.c (uni m.c m'.c m'.wl wl) w' := by
  have key : ∀ b ∈ m'.wl, m.H.get b ≠ none → b ∈ uni m.c m'.c m'.wl wl := fun b hb hl => by
    refine uni_iff.2 (.inl ⟨hb, fun ⟨h1, h2⟩ => ?_⟩)
    cases e : m.H.get b with
    | none => exact hl e
    | some o =>
      obtain ⟨g, _, hg, _⟩ := hw.lr b o e
      rw [(hf b h1 h2).1] at hg
      cases hg
  refine ⟨h.ext, h.wr, h.size, fun b g hb => ?_, h.kap, fun g hg hn => h.keep g hg (fun b hb hl => hn b (key b hb hl) hl), fun b hb hr => ?_, h.live⟩
  · rcases h.nu b g hb with h1 | ⟨h1, h2, h3⟩
    · exact .inl h1
    · refine .inr ⟨h1, h2, h3.imp id (fun ⟨b0, h4, h5, h6⟩ => ⟨b0, key b0 h4 h5, h5, h6⟩)⟩
  · refine h.same b (fun hm => hb (uni_iff.2 (.inl ⟨hm, by omega⟩))) hr
theorem sta_uni {m m' : Mm} (h : Sta ⟨m.H, m.c, [], m.pc⟩ m') : Sta m ⟨m'.H, m'.c, uni m.c m'.c m'.wl m.wl, m'.pc⟩ := by
  refine ⟨h.le, fun b hb => uni_iff.2 (.inr hb), fun b hb => ?_, h.live, fun b hb hr => h.same b (fun hm => hb (uni_iff.2 (.inl ⟨hm, ?_⟩))) hr⟩
  · rcases uni_iff.1 hb with ⟨h1, h2⟩ | h1
    · rcases h.wlive b h1 with h3 | h3 | h3
      · cases h3
      · exact .inr (.inl h3)
      · exact .inr (.inr h3)
    · exact .inl h1
  · have hr : b < m.c ∨ m'.c ≤ b := hr
    omega
theorem go_call (g : Nat) (xs : List V) (m : Mm) : go P O (f + 1) (.call g xs m) = match O.f g xs m with
    | some l => some l
    | none => match P.funcs[g]? with
      | some fn => match fn.body, Nat.ble (ln xs) fn.ntmps with
        | some body, true => match go P O f (.code fn.ntmps body ⟨enumV 0 xs ⟨O.nv g, .e, []⟩, ⟨m.H, m.c, [], m.pc⟩⟩) with
          | some l => bindL (fun e s => match e with
            | .ret => (match rvs P s.F s.m.H fn.results.toList with | some vs => some [(.val (packR vs), ⟨.nil, ⟨s.m.H, s.m.c, uni m.c s.m.c s.m.wl m.wl, s.m.pc⟩⟩)] | none => none)
            | .nx => (match rvs P s.F s.m.H fn.results.toList with | some vs => some [(.val (packR vs), ⟨.nil, ⟨s.m.H, s.m.c, uni m.c s.m.c s.m.wl m.wl, s.m.pc⟩⟩)] | none => none)
            | .pan => some [(.pan, s)]
            | _ => none) l
          | none => none
        | _, _ => none
      | none => none := rfl
theorem sf_step (hO : OraOK P O ρ) (hC : SC P O ρ f) : SF P O ρ (f + 1) := by
  intro g xs m ls h hp
  rw [go_call] at h
  split at h
  · rename_i l hl
    cases h
    exact hO _ _ _ _ hl hp
  · split at h <;> first | (cases h; done) | skip
    rename_i fn hfn
    split at h <;> first | (cases h; done) | skip
    rename_i body hbd hlen
    have hlen := Nat.le_of_ble_eq_true hlen
    rw [ln_eq] at hlen
    split at h <;> first | (cases h; done) | skip
    rename_i l hgo
    refine (hC _ _ _ _ hgo hp).bind h (fun s r hr => by cases hr; rfl) (fun e s1 rs hk hp1 S1 hrc => ?_)
    have main : (e = .ret ∨ e = .nx) → (match rvs P s1.F s1.m.H fn.results.toList with | some vs => some [(Ex.val (packR vs), (⟨.nil, ⟨s1.m.H, s1.m.c, uni m.c s1.m.c s1.m.wl m.wl, s1.m.pc⟩⟩ : St))] | none => none) = some rs → Good ρ m rs (RF P ρ g xs m) := by
      intro he hres
      split at hres <;> first | (cases hres; done) | skip
      rename_i vs hvs
      cases hres
      refine Good.one hp1 (sta_uni S1) ⟨_, rfl, ⟨fn, hfn, by rw [hbd]; rfl⟩, fun w0 E us w K hρ hx hw hf hK => ?_⟩
      refine Calls.mono (R := fun e w' => (∃ u, e = .returned u) ∧ K e w') ?_ (fun e w h => h.2)
      refine calls_of_wp hfn hbd ?_
      refine hrc w0 E _ w _ hρ ⟨_, fr0 (by rw [hx.len]; exact hlen), frame0 (O.nv g) hx⟩ hw hf ⟨fun ch a w hq => ?_, fun a w hq => ?_⟩ (fun E' a' w' hn hfa => ?_)
      · obtain ⟨_, ⟨u, hu⟩, _⟩ := hq
        cases hu
      · obtain ⟨⟨u, hu⟩, _⟩ := hq
        cases hu
      · obtain ⟨FL, hfr, hF'⟩ := hfa
        obtain ⟨u, q1, q2⟩ := results_ok (fn := fn) hF' hfr hn.wr hvs
        have hK' := hK E' u w' (nx_uni (m := ⟨m.H, m.c, [], m.pc⟩) (m' := s1.m) hw hf hn m.wl) q2
        rcases he with rfl | rfl
        · exact ⟨hfr.defers, u, q1, ⟨u, rfl⟩, hK'⟩
        · exact ⟨hfr.defers, u, q1, ⟨u, rfl⟩, hK'⟩
    cases e with
    | ret => exact main (.inl rfl) hk
    | nx => exact main (.inr rfl) hk
    | pan => cases hk; exact Good.pan hp1
    | ex i => cases hk
    | val v => cases hk
theorem go_seq (n : Nat) (a b : Code) (s : St) : go P O (f + 1) (.code n (.seq a b) s) = match go P O f (.code n a s) with
      | some l => bindL (fun e s' => match e with | .nx => go P O f (.code n b s') | e => some [(e, s')]) l
      | none => none := rfl
theorem go_cond (n : Nat) (x : Operand) (a b : Code) (s : St) : go P O (f + 1) (.code n (.cond x a b) s) = match eo s.F x with
      | some (.bool e) => dec s.m.pc e (fun t pc => match t with
        | true => go P O f (.code n a ⟨s.F, s.m.wpc pc⟩)
        | false => go P O f (.code n b ⟨s.F, s.m.wpc pc⟩))
      | _ => none := rfl
theorem go_block (n i : Nat) (a : Code) (s : St) : go P O (f + 1) (.code n (.block i a) s) = match go P O f (.code n a s) with
      | some l => bindL (fun e s' => match e with
        | .ex j => (match Nat.beq j i with | true => some [(.nx, s')] | false => some [(.ex j, s')])
        | e => some [(e, s')]) l
      | none => none := rfl
theorem go_loop (n : Nat) (a : Code) (s : St) : go P O (f + 1) (.code n (.loop a) s) = match go P O f (.code n a s) with
      | some l => bindL (fun e s' => match e with | .nx => go P O f (.code n (.loop a) s') | e => some [(e, s')]) l
      | none => none := rfl
theorem go_rord (n i : Nat) (ops : Array Oper) (s : St) : go P O (f + 1) (.code n (.region i ops false) s) = go P O f (.ord n ops.toList ops.toList ⟨s.F.fresh, s.m⟩) := rfl
theorem go_rany (n i : Nat) (ops : Array Oper) (s : St) : go P O (f + 1) (.code n (.region i ops true) s) = match Region.noSelect ops with
      | true => go P O f (.reg n ops.toList ops.toList [] ⟨clean ops.toList s.F.fresh, s.m⟩)
      | false => none := rfl
theorem sl_step (hC : SC P O ρ f) (hL : SL P O ρ f) : SL P O ρ (f + 1) := by
  intro n c s ls h hp
  rw [go_loop] at h
  split at h <;> first | (cases h; done) | skip
  rename_i l h1
  refine (hC _ _ _ _ h1 hp).bind h (fun s r hr => by cases hr; rfl) (fun e s1 rs hk hp1 S1 hrc => ?_)
  cases e with
  | nx =>
    refine ((hL _ _ _ _ hk hp1).mono (fun e2 s2 S2 hrc2 => ?_)).from S1
    exact hrc.seq S1 hrc2 S2 (fun Q a w h => by rw [rounds_succ]; exact h)
  | pan => cases hk; exact Good.pan hp1
  | ret =>
    cases hk
    exact Good.one hp1 S1 (hrc.early (K := fun Q a w => Code.rounds P c Q f a w) (by simp) (fun Q a w h => by rw [rounds_succ]; exact h))
  | ex i =>
    cases hk
    exact Good.one hp1 S1 (hrc.early (K := fun Q a w => Code.rounds P c Q f a w) (by simp) (fun Q a w h => by rw [rounds_succ]; exact h))
  | val v =>
    cases hk
    exact Good.one hp1 S1 (hrc.early (K := fun Q a w => Code.rounds P c Q f a w) (by simp) (fun Q a w h => by rw [rounds_succ]; exact h))
theorem drew_wr {w0 : World} {E : Env} {H : Nat → Option Ob} {w : World} (h : Wr w0 E H w) : Wr w0 E H { w with drawn := w.drawn + 1 } :=
  ⟨⟨h.agree.os, h.agree.tape, h.agree.output, h.agree.size, h.agree.frame⟩, h.lr, h.own, h.inj⟩
theorem FD_no {D : Nat → Bool} {F0 : Nat → Option V} : ∀ {es : List En} {t : Nat}, (∀ i, i < es.length → D i = false) → FD D F0 es t = F0 t
  | [], t, _ => rfl
  | e :: r, t, h => by
    show (if D r.length = true ∧ e.r.dst = some t then some e.v else FD D F0 r t) = _
    rw [if_neg (by rw [h r.length (by simp)]; simp), FD_no (fun i hi => h i (by simp; omega))]
theorem HD_no {D : Nat → Bool} {H0 : Nat → Option Ob} : ∀ {es : List En} {t : Nat}, (∀ i, i < es.length → D i = false) → HD D H0 es t = H0 t
  | [], t, _ => rfl
  | e :: r, t, h => by
    show (if D r.length = true ∧ Tch e.r t then e.K.get t else HD D H0 r t) = _
    rw [if_neg (by rw [h r.length (by simp)]; simp), HD_no (fun i hi => h i (by simp; omega))]
theorem region_any (hm : P.follows .mixedOrders = true) (hA : SA P O ρ f) {n i : Nat} {ops : Array Oper} {s : St} {ls : Lv} (hns : Region.noSelect ops = true) (h : go P O f (.reg n ops.toList ops.toList [] ⟨clean ops.toList s.F.fresh, s.m⟩) = some ls) (hp : PC ρ s.m.pc) : Good ρ s.m ls (RC ρ n s.F s.m ((Code.region i ops true).wp P)) := by
  obtain ⟨q1, q2⟩ := clean_ok (l := ops.toList) (F := s.F.fresh)
  refine (hA n ops s.m (clean ops.toList s.F.fresh).get [] ⟨clean ops.toList s.F.fresh, s.m⟩ ls h hp .nil (fun t => rfl) (fun b => rfl) rfl rfl).mono (fun e s' S ⟨he, es, ht, hlen, hF, hH, hc, hwl⟩ => ?_)
  subst he
  intro w0 E a w Q hρ hfa hw hf np hto
  refine wp_region_any hm ?_
  rw [hc] at hf
  have hlt : ∀ i, i < ops.size → (Array.replicate ops.size false).getD i true = false := fun i hi => by
    rw [Array.getD_eq_getD_getElem?, Array.getElem?_replicate, if_pos hi]; rfl
  refine reg_all (w0 := w0) (ws := { w with drawn := w.drawn + 1 }) (E0 := E) (wl0 := s.m.wl) ht hlen (fun b hb ⟨h1, h2⟩ => ?_) hf (fun i o t ho hd => q2 o (by rw [Array.mem_toList_iff]; exact Array.mem_of_getElem? ho) t hd) (fun E' a' w' hr => ?_) ops.size (Array.replicate ops.size false) (List.range ops.size) E a _ (by simp) List.nodup_range (by simp) (fun i hi => by rw [hlt i hi]; simp [hi]) (fun i hi => by simpa using hi) (fun k e hk hD => ?_) ?_
  · cases e : s.m.H.get b with
    | none => exact hb e
    | some o =>
      obtain ⟨g, _, hg, _⟩ := hw.lr b o e
      rw [(hf b h1 h2).1] at hg
      cases hg
  · have eH : HD All s.m.H.get es = s'.m.H.get := funext fun b => (hH b).symm
    have hn := hr.nx
    rw [eH, ← hc, ← hwl] at hn
    refine hto E' a' w' ⟨hn.ext, hn.wr, hn.size, hn.nu, hn.kap, hn.keep, hn.same, hn.live⟩ ?_
    obtain ⟨FL, h1, h2⟩ := hr.fa
    exact ⟨FL, h1, fun t v hv => h2 t v (by rw [← hF]; exact hv)⟩
  · have := atI_lt hk
    have h1 := hlt k (by omega)
    have h2 : (Array.replicate ops.size false).getD k true = true := hD
    rw [h1] at h2
    cases h2
  · have hno : ∀ i, i < es.length → (fun i => (Array.replicate ops.size false).getD i true) i = false := fun i hi => hlt i (by omega)
    obtain ⟨FL, h1, h2⟩ := hfa
    have eH : HD (fun i => (Array.replicate ops.size false).getD i true) s.m.H.get es = s.m.H.get := funext fun b => HD_no hno
    refine ⟨hρ, ⟨FL, h1, fun t v hv => ?_⟩, ?_, fun i e hi _ => ?_⟩
    · rw [FD_no hno] at hv
      exact h2 t v (Fm.get_fresh (q1 t v hv))
    · rw [eH]
      exact ⟨Ext.refl E, drew_wr hw, Nat.le_refl _, fun b g hb => .inl hb, fun i k hi => .inl hi, fun _ _ _ => rfl, fun _ _ _ => rfl, fun b hb => .inl hb⟩
    · have := at_c ht hi
      exact hf.sub (by omega) (by omega)
theorem sc_step (hm : P.follows .mixedOrders = true) (hC : SC P O ρ f) (hL : SL P O ρ (f + 1)) (hO : SO P O ρ f) (hA : SA P O ρ f) : SC P O ρ (f + 1) := by
  intro n c s ls h hp
  have self : ∀ {e : Ex} {W : WP}, (∀ Q a w, Qx e Q a w → W Q a w) → Good ρ s.m [(e, s)] (RC ρ n s.F s.m W) := fun hW => Good.one hp (Sta.refl _) (fun w0 E a w Q hρ hfa hw hf np hto => hW Q a w (hto E a w (Nx.refl hw _ _) hfa))
  cases c with
  | skip => cases h; exact self (fun Q a w h => wp_skip h)
  | ret => cases h; exact self (fun Q a w h => wp_ret h)
  | exit i => cases h; exact self (fun Q a w h => wp_exit h)
  | label l => cases h; exact self (fun Q a w h => wp_label h)
  | seq x y =>
    rw [go_seq] at h
    split at h <;> first | (cases h; done) | skip
    rename_i l h1
    refine (hC _ _ _ _ h1 hp).bind h (fun s r hr => by cases hr; rfl) (fun e s1 rs hk hp1 S1 hrc => ?_)
    cases e with
    | nx => exact ((hC _ _ _ _ hk hp1).mono (fun e2 s2 S2 hrc2 => hrc.seq S1 hrc2 S2 (fun Q a w h => wp_seq h))).from S1
    | pan => cases hk; exact Good.pan hp1
    | ret => cases hk; exact Good.one hp1 S1 (hrc.early (K := fun Q a w => y.wp P Q a w) (by simp) (fun Q a w h => wp_seq h))
    | ex i => cases hk; exact Good.one hp1 S1 (hrc.early (K := fun Q a w => y.wp P Q a w) (by simp) (fun Q a w h => wp_seq h))
    | val v => cases hk; exact Good.one hp1 S1 (hrc.early (K := fun Q a w => y.wp P Q a w) (by simp) (fun Q a w h => wp_seq h))
  | cond x y z =>
    rw [go_cond] at h
    split at h <;> first | (cases h; done) | skip
    rename_i e hx
    obtain ⟨pc', rs', h1, h2, h3⟩ := dec_ok h hp
    refine Good.sub ?_ h3
    have ev : ∀ {E : Env} {a : Act} {FL : Eng.FL}, E.ρ = ρ → Fr ⟨n, []⟩ a FL → FRel E s.F FL → a.eval x = .bool (e.den ρ).b := fun hρ hfr hF => by
      obtain ⟨u, e1, r⟩ := eo_ok hF hx
      rw [hfr.ev e1, show u = .bool (e.den _).b from r, hρ]
    cases hb : (e.den ρ).b with
    | true =>
      rw [hb] at h1
      refine ((hC _ _ _ _ h1 h2).mono (fun e2 s2 S2 hrc => ?_)).from (Sta.wpc _ _)
      intro w0 E a w Q hρ hfa hw hf np hto
      have hev := ev hρ hfa.choose_spec.1 hfa.choose_spec.2
      rw [hb] at hev
      exact wp_cond_split hev (fun _ => hrc w0 E a w Q hρ hfa hw hf np hto) (fun e => by cases e)
    | false =>
      rw [hb] at h1
      refine ((hC _ _ _ _ h1 h2).mono (fun e2 s2 S2 hrc => ?_)).from (Sta.wpc _ _)
      intro w0 E a w Q hρ hfa hw hf np hto
      have hev := ev hρ hfa.choose_spec.1 hfa.choose_spec.2
      rw [hb] at hev
      exact wp_cond_split hev (fun e => by cases e) (fun _ => hrc w0 E a w Q hρ hfa hw hf np hto)
  | block i x =>
    rw [go_block] at h
    split at h <;> first | (cases h; done) | skip
    rename_i l h1
    refine (hC _ _ _ _ h1 hp).bind h (fun s r hr => by cases hr; rfl) (fun e s1 rs hk hp1 S1 hrc => ?_)
    have fin : ∀ e', (∀ Q a w, Qx e' Q a w → Qx e (Exit.inBlock i Q) a w) → RC ρ n s.F s.m ((Code.block i x).wp P) e' s1 := by
      intro e' he' w0 E a w Q hρ hfa hw hf np hto
      exact wp_block (hrc w0 E a w _ hρ hfa hw hf (np_block np) (fun E' a' w' hn hfa' => he' Q a' w' (hto E' a' w' hn hfa')))
    cases e with
    | ex j =>
      dsimp only at hk
      split at hk
      · rename_i hj
        have hj := Nat.eq_of_beq_eq_true hj
        cases hk
        exact Good.one hp1 S1 (fin .nx (fun Q a w h => by show Exit.inBlock i Q (.exit j) a w; simp only [Exit.inBlock, hj, if_true]; exact h))
      · rename_i hj
        have hj := beq_f.1 hj
        cases hk
        exact Good.one hp1 S1 (fin (.ex j) (fun Q a w h => by show Exit.inBlock i Q (.exit j) a w; simp only [Exit.inBlock, hj, if_false]; exact h))
    | nx => cases hk; exact Good.one hp1 S1 (fin .nx (fun Q a w h => h))
    | ret => cases hk; exact Good.one hp1 S1 (fin .ret (fun Q a w h => h))
    | val v => cases hk; exact Good.one hp1 S1 (fin (.val v) (fun Q a w h => h))
    | pan => cases hk; exact Good.pan hp1
  | scope x =>
    have h : go P O f (.code n x s) = some ls := h
    refine (hC _ _ _ _ h hp).mono (fun e s1 S1 hrc => ?_)
    intro w0 E a w Q hρ hfa hw hf np hto
    refine wp_scope_straight ?_
    refine hrc w0 E a w _ hρ hfa hw hf ⟨fun c a w hq => np.1 c a w hq, fun a w hq => np.2 a w hq⟩ (fun E' a' w' hn hfa' => ?_)
    have := hto E' a' w' hn hfa'
    cases e <;> exact this
  | loop x =>
    refine (hL _ _ _ _ h hp).mono (fun e s1 S1 hrc => ?_)
    intro w0 E a w Q hρ hfa hw hf np hto
    exact wp_loop_rounds _ (hrc w0 E a w Q hρ hfa hw hf np hto)
  | region i ops any =>
    cases any with
    | false =>
      rw [go_rord] at h
      refine (hO n ops 0 ⟨s.F.fresh, s.m⟩ ls (by rw [List.drop_zero]; exact h) hp).mono (fun e s1 S1 ⟨he, hrc⟩ => ?_)
      intro w0 E a w Q hρ hfa hw hf np hto
      refine wp_region ?_
      have := hrc w0 E a w Q hρ (by obtain ⟨FL, h1, h2⟩ := hfa; exact ⟨FL, h1, fun t v hv => h2 t v (Fm.get_fresh hv)⟩) hw hf np hto
      rw [Nat.sub_zero, ← List.range_eq_range'] at this
      exact this
    | true =>
      rw [go_rany] at h
      split at h <;> first | (cases h; done) | skip
      rename_i hns
      exact region_any hm hA hns h hp
  | _ => exact absurd (show (none : Option Lv) = _ from h) (by simp)
theorem snd_all (hm : P.follows .mixedOrders = true) (hng : ∀ (g : Nat) (fn : Func), P.funcs[g]? = some fn → (fn.name == "runtime.NumGoroutine") = false) (hO : OraOK P O ρ) : ∀ f, SC P O ρ f ∧ SL P O ρ f ∧ SO P O ρ f ∧ SA P O ρ f ∧ SF P O ρ f
  | 0 => ⟨fun _ _ _ _ h => (by cases h), fun _ _ _ _ h => (by cases h), fun _ _ _ _ _ h => (by cases h), fun _ _ _ _ _ _ _ h => (by cases h), fun _ _ _ _ h => (by cases h)⟩
  | f + 1 => by
    obtain ⟨h1, h2, h3, h4, h5⟩ := snd_all hm hng hO f
    have hl := sl_step h1 h2
    exact ⟨sc_step hm h1 hl h3 h4, hl, so_step hng h3 h5, sa_step hng h4 h5, sf_step hO h1⟩
noncomputable def noO (nv : Nat → Nat) : Ora := ⟨fun _ _ _ => none, nv⟩
theorem noO_ok {nv : Nat → Nat} : OraOK P (noO nv) ρ := fun _ _ _ _ h => by cases h
theorem hng_of (hng : (P.funcs.toList.all fun fn => !(fn.name == "runtime.NumGoroutine")) = true) : ∀ (g : Nat) (fn : Func), P.funcs[g]? = some fn → (fn.name == "runtime.NumGoroutine") = false := fun g fn hg => by
  have := List.all_eq_true.1 hng fn (by rw [Array.mem_toList_iff]; exact Array.mem_of_getElem? hg)
  simpa using this
end
end Go.Run
