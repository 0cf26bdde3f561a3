/-
Both ways of a test; what holds of a run's memory, whatever the world.
-/
import Derived.Test.YtlipgpeninlcdaaGreatZ10
namespace Go.Run
open Go.Eng
set_option linter.unusedVariables false
set_option linter.unusedSimpArgs false
def PC (ρ : Rho) (pc : List (X × Bool)) : Prop := ∀ p ∈ pc, (p.1.den ρ).b = p.2
theorem PC.cons {ρ : Rho} {pc : List (X × Bool)} {x : X} {b : Bool} (h : PC ρ pc) (hx : (x.den ρ).b = b) : PC ρ ((x, b) :: pc) := fun p hp => by
  rcases List.mem_cons.1 hp with rfl | hp
  · exact hx
  · exact h p hp
theorem pcf_ok {ρ : Rho} : ∀ {pc : List (X × Bool)} {x : X} {b : Bool}, PC ρ pc → pcf pc x = some b → (x.den ρ).b = b
  | [], x, b, _, h => by cases h
  | (y, q) :: r, x, b, hp, h => by
    unfold pcf at h
    split at h
    · rename_i hs
      cases h
      rw [← X.same_ok hs]
      exact hp (y, q) List.mem_cons_self
    · exact pcf_ok (fun p hm => hp p (List.mem_cons_of_mem _ hm)) h
theorem joinO_ok {a b : Option Lv} {l : Lv} (h : joinO a b = some l) : ∃ x y, a = some x ∧ b = some y ∧ l = x ++ y := by
  unfold joinO at h
  split at h <;> first | (cases h; done) | skip
  cases h
  exact ⟨_, _, rfl, rfl, ap_eq _ _⟩
theorem dec0_ok {ρ : Rho} {pc : List (X × Bool)} {x : X} {k : Bool → List (X × Bool) → Option Lv} {rs : Lv} (h : dec0 pc x k = some rs) (hp : PC ρ pc) : ∃ pc' rs', k (x.den ρ).b pc' = some rs' ∧ PC ρ pc' ∧ ∀ l ∈ rs', l ∈ rs := by
  unfold dec0 at h
  split at h
  · rename_i b hb
    rw [← pcf_ok hp hb] at h
    exact ⟨pc, rs, h, hp, fun l hl => hl⟩
  · obtain ⟨a, b, h1, h2, rfl⟩ := joinO_ok h
    cases hx : (x.den ρ).b with
    | true => exact ⟨_, a, h1, hp.cons hx, fun l hl => List.mem_append_left _ hl⟩
    | false => exact ⟨_, b, h2, hp.cons hx, fun l hl => List.mem_append_right _ hl⟩
theorem dec_ok {ρ : Rho} {pc : List (X × Bool)} {x : X} {k : Bool → List (X × Bool) → Option Lv} {rs : Lv} (h : dec pc x k = some rs) (hp : PC ρ pc) : ∃ pc' rs', k (x.den ρ).b pc' = some rs' ∧ PC ρ pc' ∧ ∀ l ∈ rs', l ∈ rs := by
  unfold dec at h
  split at h
  · exact ⟨pc, rs, h, hp, fun l hl => hl⟩
  · obtain ⟨pc', rs', h1, h2, h3⟩ := dec0_ok h hp
    exact ⟨pc', rs', h1, h2, h3⟩
  · exact dec0_ok h hp
/-- What holds of memory behind a run, whatever the world. -/
structure Sta (m m' : Mm) : Prop where
  le : m.c ≤ m'.c
  wl : ∀ b ∈ m.wl, b ∈ m'.wl
  wlive : ∀ b ∈ m'.wl, b ∈ m.wl ∨ m.H.get b ≠ none ∨ (m.c ≤ b ∧ b < m'.c)
  live : ∀ b, m'.H.get b ≠ none → m.H.get b ≠ none ∨ (m.c ≤ b ∧ b < m'.c)
  same : ∀ b, b ∉ m'.wl → (b < m.c ∨ m'.c ≤ b) → m'.H.get b = m.H.get b
theorem Sta.refl (m : Mm) : Sta m m := ⟨Nat.le_refl _, fun _ h => h, fun _ h => .inl h, fun _ h => .inl h, fun _ _ _ => rfl⟩
theorem Sta.wpc (m : Mm) (pc : List (X × Bool)) : Sta m (m.wpc pc) := ⟨Nat.le_refl _, fun _ h => h, fun _ h => .inl h, fun _ h => .inl h, fun _ _ _ => rfl⟩
theorem Sta.trans {a b c : Mm} (h : Sta a b) (k : Sta b c) : Sta a c := by
  have h1 := h.le
  have h2 := k.le
  refine ⟨Nat.le_trans h1 h2, fun x hx => k.wl x (h.wl x hx), fun x hx => ?_, fun x hx => ?_, fun x hx hr => ?_⟩
  · rcases k.wlive x hx with h3 | h3 | ⟨h3, h4⟩
    · rcases h.wlive x h3 with h5 | h5 | ⟨h5, h6⟩
      · exact .inl h5
      · exact .inr (.inl h5)
      · exact .inr (.inr ⟨h5, by omega⟩)
    · rcases h.live x h3 with h5 | ⟨h5, h6⟩
      · exact .inr (.inl h5)
      · exact .inr (.inr ⟨h5, by omega⟩)
    · exact .inr (.inr ⟨by omega, h4⟩)
  · rcases k.live x hx with h3 | ⟨h3, h4⟩
    · rcases h.live x h3 with h5 | ⟨h5, h6⟩
      · exact .inl h5
      · exact .inr ⟨h5, by omega⟩
    · exact .inr ⟨by omega, h4⟩
  · exact (k.same x hx (by omega)).trans (h.same x (fun hm => hx (k.wl x hm)) (by omega))
theorem Sta.new (m : Mm) (o : Ob) : Sta m (m.new o) := by
  refine ⟨Nat.le_succ _, fun _ h => h, fun _ h => .inl h, fun x hx => ?_, fun x hx hr => ?_⟩
  · by_cases e : x = m.c
    · exact .inr ⟨by omega, by show x < Nat.succ m.c; omega⟩
    · have hx : (m.H.put m.c (some o)).get x ≠ none := hx
      rw [PT.put_other _ _ e] at hx
      exact .inl hx
  · have : x ≠ m.c := by
      rcases hr with h | h
      · omega
      · have h : Nat.succ m.c ≤ x := h
        omega
    exact PT.put_other _ _ this
theorem Sta.set {m : Mm} {b : Nat} {o : Ob} (o' : Ob) (hb : m.H.get b = some o) : Sta m (m.set b o') := by
  refine ⟨Nat.le_refl _, fun _ h => ins_iff.2 (.inr h), fun x hx => ?_, fun x hx => ?_, fun x hx hr => ?_⟩
  · rcases ins_iff.1 hx with rfl | hx
    · exact .inr (.inl (by rw [hb]; simp))
    · exact .inl hx
  · by_cases e : x = b
    · subst e; exact .inl (by rw [hb]; simp)
    · have hx : (m.H.put b (some o')).get x ≠ none := hx
      rw [PT.put_other _ _ e] at hx
      exact .inl hx
  · exact PT.put_other _ _ (fun e => hx (by rw [e]; exact mem_ins))
theorem Sta.app {m : Mm} {b : Nat} {o : Ob} (o' : Ob) (hb : m.H.get b = some o) : Sta m ⟨(m.H.put b none).put m.c (some o'), Nat.succ m.c, ins b m.wl, m.pc⟩ := by
  refine ⟨Nat.le_succ _, fun _ h => ins_iff.2 (.inr h), fun x hx => ?_, fun x hx => ?_, fun x hx hr => ?_⟩
  · rcases ins_iff.1 hx with rfl | hx
    · exact .inr (.inl (by rw [hb]; simp))
    · exact .inl hx
  · by_cases e : x = m.c
    · exact .inr ⟨by omega, by show x < Nat.succ m.c; omega⟩
    · have hx : ((m.H.put b none).put m.c (some o')).get x ≠ none := hx
      rw [PT.put_other _ _ e] at hx
      by_cases e2 : x = b
      · subst e2; rw [PT.put_same] at hx; exact absurd rfl hx
      · rw [PT.put_other _ _ e2] at hx; exact .inl hx
  · have h1 : x ≠ m.c := by
      rcases hr with h | h
      · omega
      · have h : Nat.succ m.c ≤ x := h
        omega
    have h2 : x ≠ b := fun e => hx (by rw [e]; exact mem_ins)
    show ((m.H.put b none).put m.c (some o')).get x = _
    rw [PT.put_other _ _ h1, PT.put_other _ _ h2]
theorem eop_sta {P : Program} {F : Fm} {M M' : Mm} {d : Option Nat} {op : Op} {v : V} (h : eop P F M d op = some (v, M')) : Sta M M' ∧ M'.pc = M.pc := by
  unfold eop at h
  split at h
  split at h
  all_goals first | (cases h; done) | (unfold r_alloc at h) | (unfold r_box at h) | (unfold r_store at h) | (unfold r_bsl at h) | (unfold r_msl at h) | (unfold r_call at h)
  all_goals repeat' (split at h <;> first | (cases h; done) | skip)
  all_goals first
    | (cases h; done)
    | (cases h; exact ⟨Sta.refl _, rfl⟩)
    | (cases h; exact ⟨Sta.new _ _, rfl⟩)
    | (cases h; exact ⟨Sta.set _ (by assumption), rfl⟩)
    | (cases h; exact ⟨Sta.app _ (by assumption), rfl⟩)
/-- Of all ways of a run, the one that is gone. -/
def Good (ρ : Rho) (m : Mm) (ls : Lv) (R : Ex → St → Prop) : Prop := ∃ l ∈ ls, PC ρ l.2.m.pc ∧ (l.1 = .pan ∨ (Sta m l.2.m ∧ R l.1 l.2))
theorem Good.sub {ρ : Rho} {m : Mm} {ls ls' : Lv} {R : Ex → St → Prop} (h : Good ρ m ls R) (hs : ∀ l ∈ ls, l ∈ ls') : Good ρ m ls' R := by
  obtain ⟨l, h1, h2⟩ := h
  exact ⟨l, hs l h1, h2⟩
theorem Good.one {ρ : Rho} {m : Mm} {e : Ex} {s : St} {R : Ex → St → Prop} (hp : PC ρ s.m.pc) (hs : Sta m s.m) (h : R e s) : Good ρ m [(e, s)] R := ⟨_, List.mem_singleton_self _, hp, .inr ⟨hs, h⟩⟩
theorem Good.pan {ρ : Rho} {m : Mm} {s : St} {R : Ex → St → Prop} (hp : PC ρ s.m.pc) : Good ρ m [(.pan, s)] R := ⟨_, List.mem_singleton_self _, hp, .inl rfl⟩
theorem Good.mono {ρ : Rho} {m : Mm} {ls : Lv} {R R' : Ex → St → Prop} (h : Good ρ m ls R) (hr : ∀ e s, Sta m s.m → R e s → R' e s) : Good ρ m ls R' := by
  obtain ⟨l, h1, h2, h3⟩ := h
  exact ⟨l, h1, h2, h3.imp id (fun h => ⟨h.1, hr _ _ h.1 h.2⟩)⟩
theorem Good.from {ρ : Rho} {m m' : Mm} {ls : Lv} {R : Ex → St → Prop} (h : Good ρ m' ls R) (hs : Sta m m') : Good ρ m ls R := by
  obtain ⟨l, h1, h2, h3⟩ := h
  exact ⟨l, h1, h2, h3.imp id (fun h => ⟨hs.trans h.1, h.2⟩)⟩
theorem bindL_eq (k : Ex → St → Option Lv) (e : Ex) (s : St) (r : Lv) : bindL k ((e, s) :: r) = match k e s with
    | some l => match bindL k r with | some m => some (ap l m) | none => none
    | none => none := by
  show Option.rec (motive := fun _ => Option Lv) none (fun l => Option.rec (motive := fun _ => Option Lv) none (fun m => some (ap l m)) (bindL k r)) (k e s) = _
  cases k e s with
  | none => rfl
  | some l => cases bindL k r <;> rfl
theorem bindL_mem {k : Ex → St → Option Lv} : ∀ {ls rs : Lv}, bindL k ls = some rs → ∀ l ∈ ls, ∃ r, k l.1 l.2 = some r ∧ ∀ x ∈ r, x ∈ rs
  | [], rs, h, l, hl => by cases hl
  | (e, s) :: q, rs, h, l, hl => by
    rw [bindL_eq] at h
    split at h <;> first | (cases h; done) | skip
    rename_i a ha
    split at h <;> first | (cases h; done) | skip
    rename_i b hb
    cases h
    rw [ap_eq]
    rcases List.mem_cons.1 hl with rfl | hl
    · exact ⟨a, ha, fun x hx => List.mem_append_left _ hx⟩
    · obtain ⟨r, h1, h2⟩ := bindL_mem hb l hl
      exact ⟨r, h1, fun x hx => List.mem_append_right _ (h2 x hx)⟩
theorem Good.bind {ρ : Rho} {m m' : Mm} {ls rs : Lv} {R R' : Ex → St → Prop} {k : Ex → St → Option Lv} (h : Good ρ m ls R) (hb : bindL k ls = some rs) (hp : ∀ s r, k .pan s = some r → r = [(.pan, s)]) (hk : ∀ e s r, k e s = some r → PC ρ s.m.pc → Sta m s.m → R e s → Good ρ m' r R') : Good ρ m' rs R' := by
  obtain ⟨l, h1, h2, h3⟩ := h
  obtain ⟨r, hr, hsub⟩ := bindL_mem hb l h1
  rcases h3 with h3 | ⟨h3, h4⟩
  · rw [h3] at hr
    rw [hp _ _ hr] at hsub
    exact (Good.pan h2).sub hsub
  · exact (hk _ _ _ hr h2 h3 h4).sub hsub
theorem needs_ok {ρ : Rho} {m0 : Mm} {k : Mm → Option Lv} {R : Ex → St → Prop} : ∀ {l : List X} {m : Mm} {rs : Lv}, needs m k l = some rs → PC ρ m.pc → (∀ pc rs', k (m.wpc pc) = some rs' → PC ρ pc → (∀ x ∈ l, (x.den ρ).b = true) → Good ρ m0 rs' R) → Good ρ m0 rs R
  | [], m, rs, h, hp, hk => hk m.pc rs h hp (fun x hx => by cases hx)
  | x :: r, m, rs, h, hp, hk => by
    unfold needs at h
    obtain ⟨pc', rs', h1, h2, h3⟩ := dec_ok h hp
    refine Good.sub ?_ h3
    cases hx : (x.den ρ).b with
    | true =>
      rw [hx] at h1
      refine needs_ok (m := m.wpc pc') h1 h2 (fun pc rs'' e1 e2 e3 => hk pc rs'' e1 e2 (fun y hy => ?_))
      rcases List.mem_cons.1 hy with rfl | hy
      · exact hx
      · exact e3 y hy
    | false =>
      rw [hx] at h1
      cases h1
      exact Good.pan h2
theorem forkB_ok {ρ : Rho} {m0 : Mm} {all : List Oper} {d : Option Nat} {v : V} {m : Mm} {k : V → Mm → Option Lv} {rs : Lv} {R : Ex → St → Prop} (h : forkB all d v m k = some rs) (hp : PC ρ m.pc)
    (hk : ∀ v' pc rs', k v' (m.wpc pc) = some rs' → PC ρ pc → (∀ E u, E.ρ = ρ → VR E v u → VR E v' u) → Good ρ m0 rs' R) : Good ρ m0 rs R := by
  have same : k v m = some rs → Good ρ m0 rs R := fun h => hk v m.pc rs h hp (fun _ _ _ h => h)
  unfold forkB at h
  split at h
  · exact same h
  · rename_i x hx
    split at h
    · split at h
      · obtain ⟨pc', rs', h1, h2, h3⟩ := dec_ok h hp
        refine (hk _ pc' rs' h1 h2 (fun E u e hv => ?_)).sub h3
        rw [show u = .bool (x.den E.ρ).b from hv, e]
        rfl
      · exact same h
    · exact same h
  · exact same h
end Go.Run
