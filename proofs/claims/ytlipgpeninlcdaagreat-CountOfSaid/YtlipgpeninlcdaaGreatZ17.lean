/-
A run of code is what the code does: rows of operations, in order and in any order.
-/
import Derived.Test.YtlipgpeninlcdaaGreatZ16
namespace Go.Run
open Go.Eng
set_option linter.unusedVariables false
set_option linter.unusedSimpArgs false
def SC (P : Program) (O : Ora) (ρ : Rho) (f : Nat) : Prop := ∀ n c s ls, go P O f (.code n c s) = some ls → PC ρ s.m.pc → Good ρ s.m ls (RC ρ n s.F s.m (c.wp P))
def SL (P : Program) (O : Ora) (ρ : Rho) (f : Nat) : Prop := ∀ n c s ls, go P O f (.code n (.loop c) s) = some ls → PC ρ s.m.pc → Good ρ s.m ls (RC ρ n s.F s.m (fun Q a w => Code.rounds P c Q f a w))
def SO (P : Program) (O : Ora) (ρ : Rho) (f : Nat) : Prop := ∀ n (ops : Array Oper) k s ls, go P O f (.ord n ops.toList (ops.toList.drop k) s) = some ls → PC ρ s.m.pc → Good ρ s.m ls (fun e s' => e = .nx ∧ RC ρ n s.F s.m (fun Q a w => wpOps P ops Q (List.range' k (ops.size - k)) a w) e s')
def SA (P : Program) (O : Ora) (ρ : Rho) (f : Nat) : Prop := ∀ n (ops : Array Oper) (m0 : Mm) F0 es s ls, go P O f (.reg n ops.toList (ops.toList.drop es.length) (es.map (·.r)) s) = some ls → PC ρ s.m.pc → Tr P ρ n ops F0 m0.H.get m0.c es →
  (∀ t, s.F.get t = FD All F0 es t) → (∀ b, s.m.H.get b = HD All m0.H.get es b) → s.m.c = cAt m0.c es → s.m.wl = wlAt m0.wl es →
  Good ρ m0 ls (fun e s' => e = .nx ∧ ∃ es', Tr P ρ n ops F0 m0.H.get m0.c es' ∧ es'.length = ops.size ∧ (∀ t, s'.F.get t = FD All F0 es' t) ∧ (∀ b, s'.m.H.get b = HD All m0.H.get es' b) ∧ s'.m.c = cAt m0.c es' ∧ s'.m.wl = wlAt m0.wl es')
theorem put_m (s : St) (d : Option Nat) (v : V) : (s.put d v).m = s.m := by cases d <;> rfl
theorem put_F (s : St) (m : Mm) (d : Option Nat) (v : V) : ((St.mk s.F m).put d v).F = (s.put d v).F := by cases d <;> rfl
theorem dOk_put {E E' : Env} {s : St} {n : Nat} {a : Act} {o : Oper} {v : V} {u : Value} (hfa : FA E s.F n a) (hx : Ext E E') (hd : dOk n o.dst = true) (hv : VR E' v u) : FA E' (s.put o.dst v).F n (a.put o.dst u) := by
  obtain ⟨FL, hfr, hF⟩ := hfa
  cases h : o.dst with
  | none => exact ⟨FL, hfr.putNone u, hF.mono hx⟩
  | some d => rw [h] at hd; exact ⟨_, hfr.put (blt_lt hd) u, (hF.mono hx).put d hv⟩
section
variable {P : Program} {O : Ora} {ρ : Rho} {f : Nat}
theorem go_ord (n : Nat) (all rest : List Oper) (s : St) : go P O (f + 1) (.ord n all rest s) = match rest with
    | [] => some [(.nx, s)]
    | o :: r => match dOk n o.dst, gv all s.F o.guard with
      | true, some true => match step1 P (go P O f) o s with
        | some l => bindL (fun e s' => match e with
          | .val v => forkB all o.dst v s'.m (fun v m => go P O f (.ord n all r (St.put ⟨s.F, m⟩ o.dst v)))
          | .pan => some [(.pan, s')]
          | _ => none) l
        | none => none
      | true, some false => go P O f (.ord n all r (s.put o.dst .und))
      | _, _ => none := rfl
theorem so_step (hng : ∀ (g : Nat) (fn : Func), P.funcs[g]? = some fn → (fn.name == "runtime.NumGoroutine") = false) (hO : SO P O ρ f) (hF : SF P O ρ f) : SO P O ρ (f + 1) := by
  intro n ops k s ls h hp
  rw [go_ord] at h
  split at h
  · rename_i hd
    cases h
    refine Good.one hp (Sta.refl _) ⟨rfl, fun w0 E a w Q hρ hfa hw hf np hto => ?_⟩
    have hk : ops.size - k = 0 := by
      have := congrArg List.length hd
      simpa using this
    rw [hk]
    exact hto E a w (Nx.refl hw _ _) hfa
  · rename_i o r hd
    have hok : ops[k]? = some o := by
      have := congrArg (·[0]?) hd
      simpa using this
    have hr : r = ops.toList.drop (k + 1) := by rw [← List.drop_drop (i := 1) (j := k), hd]; rfl
    have hlt : k < ops.size := (Array.getElem?_eq_some_iff.1 hok).1
    have hrg : List.range' k (ops.size - k) = k :: List.range' (k + 1) (ops.size - (k + 1)) := by
      rw [show ops.size - k = (ops.size - (k + 1)) + 1 by omega, List.range'_succ]
    subst hr
    split at h <;> first | (cases h; done) | skip
    · rename_i hdk hg
      split at h <;> first | (cases h; done) | skip
      rename_i l h1
      refine (step1_ok (n := n) hng hF h1 hp).bind h (fun s r hr => by cases hr; rfl) (fun e s1 rs hk hp1 S1 hrs => ?_)
      obtain ⟨v, rfl, hop⟩ := hrs
      refine forkB_ok hk hp1 (fun v' pc rs' h2 hpc hv => ?_)
      have ih := hO n ops (k + 1) _ rs' h2 (by rw [put_m]; exact hpc)
      rw [put_m] at ih
      refine (ih.mono (fun e s2 S2 ⟨he, hrc⟩ => ⟨he, ?_⟩)).from (S1.trans (Sta.wpc _ _))
      intro w0 E a w Q hρ hfa hw hf np hto
      show wpOps P ops Q (List.range' k (ops.size - k)) a w
      rw [hrg]
      simp only [wpOps, hok]
      obtain ⟨FL, hfr, hF'⟩ := hfa
      rw [if_pos (gv_ok hF' hfr hg)]
      refine .inl (hop w0 E a w _ Q hρ ⟨FL, hfr, hF'⟩ hw (hf.sub (Nat.le_refl _) S2.le) (fun E' u w' hn hu => ?_))
      exact hrc w0 E' _ w' Q (hn.ext.ρ.trans hρ) (dOk_put ⟨FL, hfr, hF'⟩ hn.ext hdk (hv E' u (hn.ext.ρ.trans hρ) hu)) hn.wr (hn.fresh hf S1.le) np (hto.trans hn (S1.trans (Sta.wpc _ pc)) S2 hf)
    · rename_i hdk hg
      have ih := hO n ops (k + 1) _ ls h (by rw [put_m]; exact hp)
      rw [put_m] at ih
      refine ih.mono (fun e s2 S2 ⟨he, hrc⟩ => ⟨he, ?_⟩)
      intro w0 E a w Q hρ hfa hw hf np hto
      show wpOps P ops Q (List.range' k (ops.size - k)) a w
      rw [hrg]
      simp only [wpOps, hok]
      obtain ⟨FL, hfr, hF'⟩ := hfa
      rw [if_neg (by rw [gv_ok hF' hfr hg]; decide)]
      exact hrc w0 E _ w Q hρ (dOk_put ⟨FL, hfr, hF'⟩ (Ext.refl E) hdk rfl) hw hf np hto
theorem go_reg (n : Nat) (all rest : List Oper) (rs : List Rec) (s : St) : go P O (f + 1) (.reg n all rest rs s) = match rest with
    | [] => some [(.nx, s)]
    | o :: r => match preM rs (ln rs) o.after.toList 0, dOk n o.dst, (match o.dst with | some d => isD rs d | none => false) with
      | some pre, true, false => regOp P (go P O f) n all r o rs s pre (outs rs (ln rs) pre) (maskF (outs rs (ln rs) pre) s.F (ap (gTmp all o.guard) (tmpsOf o.op.operands.toList)) .nil)
      | _, _, _ => none := rfl
theorem regOn_eq (run : Task → Option Lv) (n : Nat) (all r : List Oper) (o : Oper) (rs : List Rec) (s : St) (pre : Nat) (us : List Rec) (F : Fm) (K : PT Ob) : regOn P run n all r o rs s pre us F K =
  match step1 P run o ⟨F, ⟨K, s.m.c, [], s.m.pc⟩⟩ with
  | some l => bindL (fun e s' => match e with
    | .val v => match clash us s'.m.wl with
      | true => none
      | false => forkB all o.dst v s'.m (fun v m => run (.reg n all r (⟨o.dst, pre, m.wl, s.m.c, m.c, K⟩ :: rs)
          (St.put ⟨s.F, ⟨merge (full us o.op) s.m.H m.H m.wl s.m.c m.c, m.c, ap m.wl s.m.wl, m.pc⟩⟩ o.dst v)))
    | .pan => some [(.pan, s')]
    | _ => none) l
  | none => none := rfl
theorem regOp_eq (run : Task → Option Lv) (n : Nat) (all r : List Oper) (o : Oper) (rs : List Rec) (s : St) (pre : Nat) (us : List Rec) (F : Fm) : regOp P run n all r o rs s pre us F =
  match gv all F o.guard with
  | some false => run (.reg n all r (⟨o.dst, pre, [], s.m.c, s.m.c, .e⟩ :: rs) (s.put o.dst .und))
  | some true => regOn P run n all r o rs s pre us F (maskM us F s.m.H o.op)
  | none => none := rfl
theorem put_get (s : St) (d : Option Nat) (v : V) (t : Nat) : (s.put d v).F.get t = if d = some t then some v else s.F.get t := by
  cases d with
  | none => simp [St.put]
  | some x =>
    show (s.F.put x (some v)).get t = _
    by_cases h : t = x
    · subst h; rw [Fm.put_same, if_pos rfl]
    · rw [Fm.put_other _ _ h, if_neg (fun e => h (by injection e with e; exact e.symm))]
theorem outs_sub : ∀ {rs : List Rec} {j a : Nat} {x : Rec}, x ∈ outs rs j a → x ∈ rs
  | [], j, a, x, hx => by cases j <;> exact hx
  | y :: r, 0, a, x, hx => by cases hx
  | y :: r, j + 1, a, x, hx => by
    rw [outs_eq] at hx
    split at hx
    · exact List.mem_cons_of_mem _ (outs_sub hx)
    · rcases List.mem_cons.1 hx with rfl | hx
      · exact List.mem_cons_self
      · exact List.mem_cons_of_mem _ (outs_sub hx)
theorem Tr.cc {n : Nat} {ops : Array Oper} {F0 : Nat → Option V} {H0 : Nat → Option Ob} {c0 : Nat} : ∀ {es : List En}, Tr P ρ n ops F0 H0 c0 es → ∀ e ∈ es, e.r.c ≤ e.r.c'
  | [], _, e, he => by cases he
  | e0 :: r, h, e, he => by
    cases h with
    | cons h1 h2 =>
      rcases List.mem_cons.1 he with rfl | he
      · exact h1.cc
      · exact Tr.cc h2 e he
theorem sa_step (hng : ∀ (g : Nat) (fn : Func), P.funcs[g]? = some fn → (fn.name == "runtime.NumGoroutine") = false) (hA : SA P O ρ f) (hF : SF P O ρ f) : SA P O ρ (f + 1) := by
  intro n ops m0 F0 es s ls h hp ht hFe hHe hce hwe
  rw [go_reg] at h
  split at h
  · rename_i hd
    cases h
    have hle : ops.size ≤ es.length := by
      have := congrArg List.length hd
      simp at this
      omega
    have hlen : es.length = ops.size := by
      cases es with
      | nil => exact (Nat.le_zero.1 hle).symm
      | cons e r =>
        cases ht with
        | cons h1 h2 =>
          have := (Array.getElem?_eq_some_iff.1 h1.at_).1
          simp at hle ⊢
          omega
    have hSta : Sta m0 s.m := by
      refine ⟨by rw [hce]; exact cAt_mono ht, fun b hb => ?_, fun b hb => ?_, fun b hb => ?_, fun b hb hr => ?_⟩
      · rw [hwe]
        clear hFe hHe hce hwe hle hlen ht hd
        induction es with
        | nil => exact hb
        | cons e r ih => exact List.mem_append_right _ ih
      · rw [hwe] at hb; rw [hce]; exact wl_live ht hb
      · rw [hHe] at hb; rw [hce]; exact HD_live ht hb
      · rw [hwe] at hb; rw [hce] at hr; rw [hHe]; exact HD_same ht hb hr
    exact Good.one hp hSta ⟨rfl, es, ht, hlen, hFe, hHe, hce, hwe⟩
  · rename_i o r hd
    have hok : ops[es.length]? = some o := by
      have := congrArg (·[0]?) hd
      simpa using this
    have hr : r = ops.toList.drop (es.length + 1) := by rw [← List.drop_drop (i := 1) (j := es.length), hd]; rfl
    subst hr
    rw [ln_eq, List.length_map] at h
    split at h <;> first | (cases h; done) | skip
    rename_i pre hpre hdk hdd
    obtain ⟨p1, p2⟩ := preM_ok hpre
    have hnd : ∀ i e', atI es i = some e' → ∀ t, o.dst = some t → e'.r.dst ≠ some t := by
      intro i e' hi t hdt
      rw [hdt] at hdd
      obtain ⟨_, _, _, _, q, hq⟩ := ht.at_ hi
      exact isD_ok hdd _ (List.mem_map.2 ⟨e', by rw [hq]; simp, rfl⟩)
    have hus : ∀ i e', atI es i = some e' → ¬ bit pre i → e'.r ∈ outs (es.map (·.r)) es.length pre := fun i e' hi hb => outs_ok hi hb
    have husc : ∀ x ∈ outs (es.map (·.r)) es.length pre, x.c ≤ x.c' := by
      intro x hx
      obtain ⟨e', he', rfl⟩ := List.mem_map.1 (outs_sub hx)
      exact Tr.cc ht e' he'
    have hfr : ∀ t v, (maskF (outs (es.map (·.r)) es.length pre) s.F (ap (gTmp ops.toList o.guard) (tmpsOf o.op.operands.toList)) .nil).get t = some v → FD All F0 es t = some v ∧ ∀ i e', atI es i = some e' → ¬ bit pre i → e'.r.dst ≠ some t := by
      intro t v hv
      rcases maskF_ok hv with h1 | ⟨h1, h2⟩
      · rw [show (Fm.nil).get t = none from Fm.get_nil 0 t] at h1; cases h1
      · exact ⟨by rw [← hFe]; exact h1, fun i e' hi hb => h2 _ (hus i e' hi hb)⟩
    have hpre' : ∀ i, bit pre i → i < es.length ∧ ∃ x ∈ o.after, Region.binds .any x = true ∧ (i = x.on ∨ ∃ e', atI es x.on = some e' ∧ bit e'.r.pre i) := by
      intro i hi
      rcases p1 i hi with h1 | ⟨x, hx, hb, h1⟩
      · exact absurd h1 bit_zero
      · have hlt := p2 x hx hb
        refine ⟨?_, x, by simpa using hx, hb, h1⟩
        rcases h1 with rfl | ⟨e', h3, h4⟩
        · exact hlt
        · obtain ⟨r', k1, k2, _⟩ := ht.at_ h3
          have := (k1.pre i h4).1
          omega
    rw [regOp_eq] at h
    split at h <;> first | (cases h; done) | skip
    · rename_i hg
      let e : En := ⟨⟨o.dst, pre, [], s.m.c, s.m.c, .e⟩, o, .und, maskF (outs (es.map (·.r)) es.length pre) s.F (ap (gTmp ops.toList o.guard) (tmpsOf o.op.operands.toList)) .nil, .e, false⟩
      have hnt : ∀ b, ¬ Tch e.r b := by
        rintro b (hb | hb)
        · cases hb
        · have h1 : s.m.c ≤ b := hb.1
          have h2 : b < s.m.c := hb.2
          omega
      have hen : EnOK P ρ n ops F0 m0.H.get m0.c e es := { at_ := hok, dst := rfl, dOk := hdk, pre := hpre', aft := fun x hx hb => p2 x (by simpa using hx) hb, fr := hfr, hp := fun b ob hb => (by have hb : (PT.e : PT Ob).get b = some ob := hb; rw [PT.get_e] at hb; cases hb), cl := fun _ _ _ _ b hb => (by cases hb), nd := fun i e' hi t hdt => hnd i e' hi t hdt, c := hce, cc := Nat.le_refl _, wlive := fun b hb => (by cases hb), live := fun b hb => (by have hb : (PT.e : PT Ob).get b ≠ none := hb; rw [PT.get_e] at hb; exact absurd rfl hb), guard := hg, off := fun _ => ⟨rfl, rfl, rfl⟩, sem := fun h => (by cases h) }
      refine hA n ops m0 F0 (e :: es) _ ls h (by rw [put_m]; exact hp) (.cons hen ht) (fun t => ?_) (fun b => ?_) ?_ ?_
      · rw [put_get]
        show _ = if All es.length = true ∧ o.dst = some t then some .und else FD All F0 es t
        rw [hFe]
        simp [All]
      · rw [put_m]
        show _ = if All es.length = true ∧ Tch e.r b then _ else HD All m0.H.get es b
        rw [if_neg (fun h => hnt b h.2)]
        exact hHe b
      · rw [put_m]; rfl
      · rw [put_m]; exact hwe
    · rename_i hg
      rw [regOn_eq] at h
      split at h <;> first | (cases h; done) | skip
      rename_i l h1
      refine (step1_ok (n := n) hng hF h1 hp).bind h (fun s r hr => by cases hr; rfl) (fun e1 s1 rs hk hp1 S1 hrs => ?_)
      obtain ⟨v, rfl, hop⟩ := hrs
      dsimp only at hk
      split at hk <;> first | (cases hk; done) | skip
      rename_i hcl
      refine forkB_ok hk hp1 (fun v' pc rs' h2 hpc hv => ?_)
      let K := maskM (outs (es.map (·.r)) es.length pre) (maskF (outs (es.map (·.r)) es.length pre) s.F (ap (gTmp ops.toList o.guard) (tmpsOf o.op.operands.toList)) .nil) s.m.H o.op
      let e : En := ⟨⟨o.dst, pre, s1.m.wl, s.m.c, s1.m.c, K⟩, o, v', maskF (outs (es.map (·.r)) es.length pre) s.F (ap (gTmp ops.toList o.guard) (tmpsOf o.op.operands.toList)) .nil, s1.m.H, true⟩
      have hsem : OpS P ρ n e.F e.r.H e.r.c e.K e.r.c' e.r.wl e.v e.o := fun w0 E a w k Q hρ hfa hw hfs hkk => hop w0 E a w k Q hρ hfa hw hfs (fun E' u w' hn hu => hkk E' u w' hn (hv E' u (hn.ext.ρ.trans hρ) hu))
      have hhp : ∀ b ob, e.r.H.get b = some ob → HD All m0.H.get es b = some ob ∧ ∀ i e', atI es i = some e' → ¬ bit pre i → ¬ Tch e'.r b := fun b ob hb => by
        obtain ⟨q1, q2⟩ := maskM_ok husc hb
        exact ⟨by rw [← hHe]; exact q1, fun i e' hi hbi => q2 _ (hus i e' hi hbi)⟩
      have hwl : ∀ b ∈ e.r.wl, e.r.H.get b ≠ none ∨ (e.r.c ≤ b ∧ b < e.r.c') := fun b hb => by
        rcases S1.wlive b hb with h3 | h3 | h3
        · cases h3
        · exact .inl h3
        · exact .inr h3
      have hen : EnOK P ρ n ops F0 m0.H.get m0.c e es := { at_ := hok, dst := rfl, dOk := hdk, pre := hpre', aft := fun x hx hb => p2 x (by simpa using hx) hb, fr := hfr, hp := hhp, cl := fun i e' hi hbi b hb => clash_ok hcl _ (hus i e' hi hbi) b hb, nd := fun i e' hi t hdt => hnd i e' hi t hdt, c := hce, cc := S1.le, wlive := hwl, live := fun b hb => S1.live b hb, guard := hg, off := fun h => (by cases h), sem := fun _ => hsem }
      refine hA n ops m0 F0 (e :: es) _ rs' h2 (by rw [put_m]; exact hpc) (.cons hen ht) (fun t => ?_) (fun b => ?_) ?_ ?_
      · rw [put_get]
        show _ = if All es.length = true ∧ o.dst = some t then some v' else FD All F0 es t
        rw [hFe]
        simp [All]
      · rw [put_m]
        show (merge (full (outs (es.map (·.r)) es.length pre) o.op) s.m.H s1.m.H s1.m.wl s.m.c s1.m.c).get b = if All es.length = true ∧ Tch e.r b then s1.m.H.get b else HD All m0.H.get es b
        rw [merge_ok (r := e.r) S1.le rfl (fun hfl b hnb => ?_), hHe]
        · simp [All]
        · have hK : K = s.m.H := by
            show maskM _ _ _ _ = _
            unfold maskM
            rw [hfl]
          have h5 := S1.same b (fun hm => hnb (.inl hm)) (by
            rcases Nat.lt_or_ge b s.m.c with h6 | h6
            · exact .inl h6
            · rcases Nat.lt_or_ge b s1.m.c with h7 | h7
              · exact absurd (show Tch e.r b from .inr ⟨h6, h7⟩) hnb
              · exact .inr h7)
          rw [h5]
          show K.get b = _
          rw [hK]
      · rw [put_m]; rfl
      · rw [put_m]
        show ap s1.m.wl s.m.wl = s1.m.wl ++ wlAt m0.wl es
        rw [ap_eq, hwe]
end
end Go.Run
