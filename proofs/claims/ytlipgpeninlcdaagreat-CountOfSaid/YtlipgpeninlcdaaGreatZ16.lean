/-
A run of code is what the code does: single operations, calls.
-/
import Derived.Test.YtlipgpeninlcdaaGreatZ15
namespace Go.Run
open Go.Eng
set_option linter.unusedVariables false
set_option linter.unusedSimpArgs false
def Qx (e : Ex) (Q : Exit → Act → World → Prop) (a : Act) (w : World) : Prop := match e with
  | .nx => Q .normal a w
  | .ret => Q .ret a w
  | .ex i => Q (.exit i) a w
  | _ => False
/-- Where a run goes on to. -/
def To (w0 : World) (E : Env) (m : Mm) (n : Nat) (w : World) (s' : St) (K : Act → World → Prop) : Prop :=
  ∀ E' a' w', Nx w0 E m.H.get m.c w E' s'.m.H.get s'.m.c s'.m.wl w' → FA E' s'.F n a' → K a' w'
theorem To.trans {w0 : World} {E E1 : Env} {m m1 : Mm} {n : Nat} {w w1 : World} {s' : St} {K : Act → World → Prop} (h : To w0 E m n w s' K) (h1 : Nx w0 E m.H.get m.c w E1 m1.H.get m1.c m1.wl w1) (S1 : Sta m m1) (S2 : Sta m1 s'.m) (hf : Fresh E m.c s'.m.c) : To w0 E1 m1 n w1 s' K :=
  fun E' a' w' hn hfa => h E' a' w' (h1.trans hn S2.wl hf S1.le S2.le) hfa
abbrev WP := (Exit → Act → World → Prop) → Act → World → Prop
def RC (ρ : Rho) (n : Nat) (F : Fm) (m : Mm) (W : WP) (e : Ex) (s' : St) : Prop :=
  ∀ (w0 : World) (E : Env) (a : Act) (w : World) (Q : Exit → Act → World → Prop), E.ρ = ρ → FA E F n a → Wr w0 E m.H.get w → Fresh E m.c s'.m.c → NP Q → To w0 E m n w s' (Qx e Q) → W Q a w
/-- One behind the other. -/
theorem RC.seq {ρ : Rho} {n : Nat} {F : Fm} {m : Mm} {W1 W2 W : WP} {s1 s2 : St} {e : Ex} (h1 : RC ρ n F m W1 .nx s1) (S1 : Sta m s1.m) (h2 : RC ρ n s1.F s1.m W2 e s2) (S2 : Sta s1.m s2.m) (hW : ∀ Q a w, W1 (Exit.then (W2 Q) Q) a w → W Q a w) : RC ρ n F m W e s2 := by
  intro w0 E a w Q hρ hfa hw hf np hto
  refine hW Q a w (h1 w0 E a w _ hρ hfa hw (hf.sub (Nat.le_refl _) S2.le) (np_then np) (fun E' a' w' hn hfa' => ?_))
  exact h2 w0 E' a' w' Q (hn.ext.ρ.trans hρ) hfa' hn.wr (hn.fresh hf S1.le) np (hto.trans hn S1 S2 hf)
/-- What ends early. -/
theorem RC.early {ρ : Rho} {n : Nat} {F : Fm} {m : Mm} {W1 W : WP} {s1 : St} {e : Ex} {K : (Exit → Act → World → Prop) → Act → World → Prop} (h1 : RC ρ n F m W1 e s1) (he : e ≠ .nx) (hW : ∀ Q a w, W1 (Exit.then (K Q) Q) a w → W Q a w) : RC ρ n F m W e s1 := by
  intro w0 E a w Q hρ hfa hw hf np hto
  refine hW Q a w (h1 w0 E a w _ hρ hfa hw hf (np_then np) (fun E' a' w' hn hfa' => ?_))
  have := hto E' a' w' hn hfa'
  cases e with
  | nx => exact absurd rfl he
  | ret => exact this
  | ex i => exact this
  | val v => exact this
  | pan => exact this
def RF (P : Program) (ρ : Rho) (g : Nat) (xs : List V) (m : Mm) (e : Ex) (s' : St) : Prop :=
  ∃ v, e = .val v ∧ (∃ fn, P.funcs[g]? = some fn ∧ fn.body.isNone = false) ∧ ∀ (w0 : World) (E : Env) (us : List Value) (w : World) (K : Ending → World → Prop), E.ρ = ρ → VRs E xs us → Wr w0 E m.H.get w → Fresh E m.c s'.m.c →
    (∀ E' u w', Nx w0 E m.H.get m.c w E' s'.m.H.get s'.m.c s'.m.wl w' → VR E' v u → K (.returned u) w') → Calls P g us.toArray w K
def SF (P : Program) (O : Ora) (ρ : Rho) (f : Nat) : Prop := ∀ g xs m ls, go P O f (.call g xs m) = some ls → PC ρ m.pc → Good ρ m ls (RF P ρ g xs m)
def OraOK (P : Program) (O : Ora) (ρ : Rho) : Prop := ∀ g xs m ls, O.f g xs m = some ls → PC ρ m.pc → Good ρ m ls (RF P ρ g xs m)
def RS (P : Program) (ρ : Rho) (n : Nat) (o : Oper) (F : Fm) (m : Mm) (e : Ex) (s' : St) : Prop := ∃ v, e = .val v ∧ OpS P ρ n F m.H m.c s'.m.H s'.m.c s'.m.wl v o
theorem folv_ok {P : Program} {E : Env} {g : Nat} {w : World} : ∀ {path : List FieldStep} {b off : Nat} {t xt : TypeId} {b' off' : Nat}, folv P path b off t = some (xt, b', off') → E.ν b = some g → E.ν b' = some g ∧ (follow path t (.var ⟨g, off, none⟩)).run P w = .ok (xt, .var ⟨g, off', none⟩) w
  | [], b, off, t, xt, b', off', h, hg => by
    cases h
    exact ⟨hg, by simp [follow]⟩
  | s :: r, b, off, t, xt, b', off', h, hg => by
    unfold folv at h
    split at h <;> first | (cases h; done) | skip
    rename_i f hd hf
    split at h <;> first | (cases h; done) | skip
    rename_i m hm
    obtain ⟨fs, h1, h2⟩ := fdv_ok hf
    obtain ⟨h3, h4⟩ := folv_ok (w := w) h hg
    refine ⟨h3, ?_⟩
    rw [follow]
    simp only [Sem.run_bind, Sem.run_pure, Result.andThen_ok, run_underlying h1, h2, hd, Bool.false_eq_true, if_false, fieldPlace, run_size (szv_ok hm), Nat.add_eq_zero_iff, Nat.succ_ne_zero, Nat.one_ne_zero, and_false, addr_add]
    exact h4
theorem method_ok {P : Program} {E : Env} {t : TypeId} {v r : V} {vv : Value} {m : String} {i : TypeInfo} {q : Method} {f : FuncId} {w : World} (hi : P.info? t = some i) (hq : i.methods.toList.find? (fun q => q.name == m) = some q) (hf : q.func = some (f, true)) (hr : recvV P t v q.path.toList = some r) (hv : VR E v vv) :
    ∃ rr, VR E r rr ∧ (method (P.types.size + Made.depth) t vv m).run P w = .ok (f, rr) w := by
  obtain ⟨k, hk⟩ : ∃ k, P.types.size + Made.depth = k + 1 := Nat.exists_eq_succ_of_ne_zero (by unfold Made.depth; omega)
  have hq' : i.methods.find? (fun q => q.name == m) = some q := by rw [← Array.find?_toList]; exact hq
  have hti : (typeInfo t).run P w = .ok i w := by unfold typeInfo; simp [program, Sem.run, hi]
  unfold recvV at hr
  split at hr
  · rename_i hp
    split at hr <;> first | (cases hr; done) | skip
    rename_i e hd
    cases hr
    refine ⟨vv, hv, ?_⟩
    rw [hk, method]
    simp [Sem.run_bind, hti, hq', hp, follow, hf, receiverAt, run_underlying hd, Place.get]
  · rename_i s rp hp
    split at hr <;> first | (cases hr; done) | skip
    rename_i b off f' hsd hfd
    split at hr <;> first | (cases hr; done) | skip
    rename_i mm hm
    split at hr <;> first | (cases hr; done) | skip
    rename_i xt b' off' hfo
    obtain ⟨g, hg, rfl⟩ := hv
    obtain ⟨h3, h4⟩ := folv_ok (w := w) hfo hg
    obtain ⟨fs, h1, h2⟩ := fdv_ok hfd
    split at hr <;> first | (cases hr; done) | skip
    rename_i d hne hd
    cases hr
    refine ⟨.pointer (some ⟨g, off', none⟩), ⟨g, h3, rfl⟩, ?_⟩
    have hfol : (follow q.path.toList t (.val (.pointer (some ⟨g, off, none⟩)))).run P w = .ok (xt, .var ⟨g, off', none⟩) w := by
      rw [hp, follow]
      simp only [Sem.run_bind, Sem.run_pure, Result.andThen_ok, run_underlying h1, h2, hsd, if_true, Place.get, asAddr, fieldPlace, run_size (szv_ok hm), Nat.add_eq_zero_iff, Nat.succ_ne_zero, Nat.one_ne_zero, and_false, if_false, addr_add]
      exact h4
    have hrec : ∀ wr, (receiverAt xt (.var ⟨g, off', none⟩) true wr).run P w = .ok (.pointer (some ⟨g, off', none⟩)) w := fun wr => by
      unfold receiverAt
      rw [Sem.run_bind, run_underlying hd]
      cases d <;> first | exact absurd rfl (hne _) | simp
    rw [hk, method]
    simp only [Sem.run_bind, hti, Result.andThen_ok, hq', hfol, hf, hrec, Sem.run_pure]
theorem step1_eq (P : Program) (run : Task → Option Lv) (o : Oper) (s : St) : step1 P run o s = match qk o.op with
  | true => needs s.m (fun m => match qop P s.F m.H o.op with
    | some (v, _) => some [(.val v, ⟨.nil, m⟩)]
    | none => none) (qneed s.F o.op)
  | false => match o.op with
    | .call c => match c.callee with
      | .builtin _ => match eop P s.F s.m o.dst (.call c) with
        | some (v, m) => some [(.val v, ⟨.nil, m⟩)]
        | none => none
      | _ => match target P s.F c with
        | some (f, xs) => run (.call f xs s.m)
        | none => none
    | op => match eop P s.F s.m o.dst op with
      | some (v, m) => some [(.val v, ⟨.nil, m⟩)]
      | none => none := by
  obtain ⟨F, m⟩ := s
  have hq : s_q P F o.op = fun m => match qop P F m.H o.op with
    | some (v, _) => some [(.val v, ⟨.nil, m⟩)]
    | none => none := by
    funext m
    unfold s_q
    simp only [qopK_eq]
    rfl
  have he : ∀ op, s_e P F m o.dst op = match eop P F m o.dst op with
    | some (v, m) => some [(.val v, ⟨.nil, m⟩)]
    | none => none := fun op => by
    unfold s_e
    simp only [eopK_eq]
    rfl
  unfold step1
  simp only [hq, he, qneedK_eq]
  cases qk o.op with
  | true => rfl
  | false =>
    cases o.op <;> first
      | rfl
      | (rename_i c; show s_call P run F m o.dst c = _; unfold s_call; simp only [he]; cases c.callee <;> rfl)
theorem step1_ok {P : Program} {O : Ora} {ρ : Rho} {f : Nat} (hng : ∀ (g : Nat) (fn : Func), P.funcs[g]? = some fn → (fn.name == "runtime.NumGoroutine") = false) (hf : SF P O ρ f) {n : Nat} {o : Oper} {s : St} {ls : Lv} (h : step1 P (go P O f) o s = some ls) (hp : PC ρ s.m.pc) : Good ρ s.m ls (RS P ρ n o s.F s.m) := by
  rw [step1_eq] at h
  split at h
  · refine needs_ok h hp (fun pc rs' h1 hp1 hneed => ?_)
    split at h1 <;> first | (cases h1; done) | skip
    rename_i v rd hq
    cases h1
    refine Good.one hp1 (Sta.wpc s.m pc) ⟨v, rfl, fun w0 E a w k Q hρ ⟨FL, hfr, hF⟩ hw hfs hk => ?_⟩
    obtain ⟨u, hu, hr⟩ := qop_ok (by rw [hρ]; exact hneed) hq rfl hF hfr hw
    exact Does.wp (.inl (hr w (fun _ _ _ _ => rfl))) (hk E u w (Nx.refl hw _ _) hu)
  · have eff : ∀ op v m', o.op = op → eop P s.F s.m o.dst op = some (v, m') → Good ρ s.m [(.val v, ⟨.nil, m'⟩)] (RS P ρ n o s.F s.m) := by
      intro op v m' ho he
      obtain ⟨h1, h2⟩ := eop_sta he
      refine Good.one (by show PC ρ m'.pc; rw [h2]; exact hp) h1 ⟨v, rfl, fun w0 E a w k Q hρ ⟨FL, hfr, hF⟩ hw hfs hk => ?_⟩
      obtain ⟨u, w', E', h3, h4, h5⟩ := eop_ok hF hfr hw ho he hfs
      exact h3.wp (hk E' u w' h4 h5)
    split at h
    · rename_i c ho
      split at h
      · split at h <;> first | (cases h; done) | skip
        rename_i v m' he
        cases h
        exact eff _ v m' ho he
      · rename_i hnb
        split at h <;> first | (cases h; done) | skip
        rename_i g xs ht
        refine (hf _ _ _ _ h hp).mono (fun e s1 hs ⟨v, he, ⟨fn, q2, q3⟩, q5⟩ => ⟨v, he, fun w0 E a w k Q hρ ⟨FL, hfr, hF⟩ hw hfs hk => ?_⟩)
        have fin : ∀ us : List Value, VRs E xs us → (execOp a.eval o).run P w = .ok (.enter g us.toArray) w → o.wp P a w k Q := by
          intro us hus hrun
          unfold Oper.wp
          rw [hrun, Oper.upon_enter]
          exact q5 w0 E _ w _ hρ hus hw hfs (fun E' u w' hn hu => hk E' u w' hn hu)
        have hname := hng g fn q2
        unfold target at ht
        split at ht <;> first | (cases ht; done) | skip
        rename_i vs hvs
        obtain ⟨uvs, e1, r1⟩ := eos_ok hF hvs
        have ea : c.args.map a.eval = uvs.toArray := Array.toList_inj.1 (by simpa using hfr.evs e1)
        split at ht <;> first | (cases ht; done) | skip
        · rename_i x hc
          split at ht <;> first | (cases ht; done) | skip
          rename_i g' us cs hx
          cases ht
          obtain ⟨_, e2, uus, ucs, r2, r3, rfl⟩ := eo_ok hF hx
          have hargs : uus.toArray ++ uvs.toArray ++ ucs.toArray = (uus ++ (uvs ++ ucs)).toArray := by simp
          refine fin (uus ++ (uvs ++ ucs)) (by rw [ap_eq, ap_eq]; exact r2.app (r1.app r3)) ?_
          simp only [execOp, ho, resolve, hc, ea, hfr.ev e2, Deferred.ofValue, Sem.run_bind, Sem.run_pure, Result.andThen_ok, invoke, hargs, run_callFunc q2 q3 hname]
        · rename_i x m hc
          split at ht <;> first | (cases ht; done) | skip
          rename_i t v hx
          split at ht <;> first | (cases ht; done) | skip
          rename_i i hi
          split at ht <;> first | (cases ht; done) | skip
          rename_i q hq
          split at ht <;> first | (cases ht; done) | skip
          rename_i f' r hqf hrv
          cases ht
          obtain ⟨_, e2, vv, r2, rfl⟩ := eo_ok hF hx
          obtain ⟨rr, r3, r4⟩ := method_ok (w := w) hi hq hqf hrv r2
          refine fin (rr :: uvs) ⟨rr, uvs, r3, r1, rfl⟩ ?_
          have hext : (#[Value.iface t vv] ++ uvs.toArray).extract 1 (#[Value.iface t vv] ++ uvs.toArray).size = uvs.toArray := by
            apply Array.toList_inj.1
            simp
          have h0 : (#[Value.iface t vv] ++ uvs.toArray)[0]? = some (.iface t vv) := by simp
          have hargs : #[rr] ++ uvs.toArray = (rr :: uvs).toArray := by simp
          have hpg : (program).run P w = .ok P w := by simp [program, Sem.run]
          simp only [execOp, ho, resolve, hc, ea, hfr.ev e2, Sem.run_bind, Sem.run_pure, Result.andThen_ok, invoke, h0, hext, callMethod, hpg, r4, hargs, run_callFunc q2 q3 hname]
    · split at h <;> first | (cases h; done) | skip
      rename_i v m' he
      cases h
      exact eff _ v m' rfl he
end Go.Run
