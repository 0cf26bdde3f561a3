/-
Own text, put together by an own program (shake.py) out of this claim's texts: what its theorem needs of them.
-/
import Derived.Test.YtgbcnokeaaabfaaGreatA9
namespace Go.Run
open Go.Eng
set_option linter.unusedVariables false
set_option linter.unusedSimpArgs false
theorem memN_eq (b x:Nat) (r:List Nat):memN b (x :: r)=match Nat.beq x b with | true=>true | false=>memN b r:=by
 show Bool.rec (motive:=fun _=>Bool) (memN b r) true (Nat.beq x b)=_
 cases Nat.beq x b <;> rfl
theorem memN_ok:∀ {l:List Nat} {b:Nat},memN b l=true↔b∈l
 | [],b=>by simp; rfl
 | x :: r,b=>by
  rw [memN_eq]
  by_cases h:x=b
  ·rw [beq_t.2 h]; simp [h]
  ·rw [beq_f.2 h]
   simp only [memN_ok (l:=r),List.mem_cons]
   exact ⟨.inr,fun h'=>h'.resolve_left (fun e=>h e.symm)⟩
theorem ins_iff {l:List Nat} {b x:Nat}:x∈ins b l↔x=b∨x∈l:=by
 unfold ins
 split
 ·rename_i h
  exact ⟨.inr,fun h'=>h'.elim (fun e=>by rw [e]; exact memN_ok.1 h) id⟩
 ·exact List.mem_cons
theorem mem_ins {l:List Nat} {b:Nat}:b∈ins b l:=ins_iff.2 (.inl rfl)
theorem uni_iff {c c':Nat}:∀ {l w:List Nat} {x:Nat},x∈uni c c' l w↔(x∈l∧¬ (c≤x∧x<c'))∨x∈w
 | [],w,x=>by simp [uni]
 | b :: r,w,x=>by
  unfold uni
  split
  ·rename_i h
   rw [Bool.and_eq_true] at h
   have h1:=Nat.le_of_ble_eq_true h.1
   have h2:b<c':=Nat.le_of_ble_eq_true h.2
   rw [uni_iff,List.mem_cons]
   constructor
   ·rintro (⟨h3,h4⟩ | h3)
    ·exact .inl ⟨.inr h3,h4⟩
    ·exact .inr h3
   ·rintro (⟨h3,h4⟩ | h3)
    ·rcases h3 with rfl | h3
     ·exact absurd ⟨h1,h2⟩ h4
     ·exact .inl ⟨h3,h4⟩
    ·exact .inr h3
  ·rename_i h
   have hb:¬ (c≤b∧b<c'):=fun ⟨h1,h2⟩=>by
    have e1:Nat.ble c b=true:=Nat.ble_eq_true_of_le h1
    have e2:Nat.blt b c'=true:=Nat.ble_eq_true_of_le h2
    rw [e1,e2] at h
    cases h
   rw [ins_iff,uni_iff,List.mem_cons]
   constructor
   ·rintro (rfl | ⟨h3,h4⟩ | h3)
    ·exact .inl ⟨.inl rfl,hb⟩
    ·exact .inl ⟨.inr h3,h4⟩
    ·exact .inr h3
   ·rintro (⟨h3,h4⟩ | h3)
    ·rcases h3 with rfl | h3
     ·exact .inl rfl
     ·exact .inr (.inl ⟨h3,h4⟩)
    ·exact .inr (.inr h3)
def Fresh (E:Env) (c c':Nat):Prop:=∀ b,c≤b→b<c'→E.ν b=none∧E.κ b=none
theorem Fresh.sub {E:Env} {c c' d d':Nat} (h:Fresh E c c') (h1:c≤d) (h2:d'≤c'):Fresh E d d':=fun b hb hb'=>h b (Nat.le_trans h1 hb) (Nat.lt_of_lt_of_le hb' h2)
structure Nx (w0:World) (E:Env) (H:Nat→Option Ob) (c:Nat) (w:World) (E':Env) (H':Nat→Option Ob) (c':Nat) (wl:List Nat) (w':World):Prop where
 ext:Ext E E'
 wr:Wr w0 E' H' w'
 size:w.heap.size≤w'.heap.size
 nu:∀ b g,E'.ν b=some g→E.ν b=some g∨(c≤b∧b<c'∧(w.heap.size≤g∨∃ b0∈wl,H b0≠none∧E.ν b0=some g))
 kap:∀ i k,E'.κ i=some k→E.κ i=some k∨(c≤i∧i<c')
 keep:∀ g,g<w.heap.size→(∀ b∈wl,H b≠none→E.ν b≠some g)→w'.heap[g]?=w.heap[g]?
 same:∀ b,b ∉ wl→(b<c∨c'≤b)→H' b=H b
 live:∀ b,H' b≠none→H b≠none∨(c≤b∧b<c')
def FA (E:Env) (F:Fm) (n:Nat) (a:Act):Prop:=∃ FL,Fr ⟨n,[]⟩ a FL∧FRel E F FL
theorem FA.mono {E E':Env} {F:Fm} {n:Nat} {a:Act} (h:FA E F n a) (hx:Ext E E'):FA E' F n a:=by
 obtain ⟨FL,h1,h2⟩:=h
 exact ⟨FL,h1,h2.mono hx⟩
theorem Nx.refl {w0:World} {E:Env} {H:Nat→Option Ob} {w:World} (h:Wr w0 E H w) (c:Nat) (wl:List Nat):Nx w0 E H c w E H c wl w :=
 ⟨Ext.refl E,h,Nat.le_refl _,fun _ _ h => .inl h,fun _ _ h => .inl h,fun _ _ _=>rfl,fun _ _ _=>rfl,fun _ h => .inl h⟩
theorem Nx.trans {w0:World} {E E1 E2:Env} {H H1 H2:Nat→Option Ob} {c c1 c2:Nat} {wl wl':List Nat} {w w1 w2:World} (h:Nx w0 E H c w E1 H1 c1 wl w1) (k:Nx w0 E1 H1 c1 w1 E2 H2 c2 wl' w2) (hs:∀ b∈wl,b∈wl') (hf:Fresh E c c2) (h1:c≤c1) (h2:c1≤c2):Nx w0 E H c w E2 H2 c2 wl' w2:=by
 have old:∀ b g,H1 b≠none→E.ν b=some g→H b≠none:=fun b g hb hg=>by
  rcases h.live b hb with h3 | ⟨h3,h4⟩
  ·exact h3
  ·have:=(hf b h3 (Nat.lt_of_lt_of_le h4 h2)).1
   rw [this] at hg; cases hg
 refine ⟨h.ext.trans k.ext,k.wr,Nat.le_trans h.size k.size,fun b g hb=>?_,fun i x hi=>?_,fun g hg hn=>?_,fun b hb hr=>?_,fun b hb=>?_⟩
 ·rcases k.nu b g hb with h3 | ⟨h3,h4,h5⟩
  ·rcases h.nu b g h3 with h6 | ⟨h6,h7,h8⟩
   ·exact .inl h6
   ·refine .inr ⟨h6,Nat.lt_of_lt_of_le h7 h2,?_⟩
    rcases h8 with h8 | ⟨b0,h8,h9⟩
    ·exact .inl h8
    ·exact .inr ⟨b0,hs b0 h8,h9⟩
  ·refine .inr ⟨Nat.le_trans h1 h3,h4,?_⟩
   rcases h5 with h5 | ⟨b0,h5,h6,h7⟩
   ·exact .inl (Nat.le_trans h.size h5)
   ·rcases h.nu b0 g h7 with h8 | ⟨h8,h9,h10⟩
    ·exact .inr ⟨b0,h5,old b0 g h6 h8,h8⟩
    ·rcases h10 with h10 | ⟨b1,h10,h11⟩
     ·exact .inl h10
     ·exact .inr ⟨b1,hs b1 h10,h11⟩
 ·rcases k.kap i x hi with h3 | ⟨h3,h4⟩
  ·rcases h.kap i x h3 with h5 | ⟨h5,h6⟩
   ·exact .inl h5
   ·exact .inr ⟨h5,Nat.lt_of_lt_of_le h6 h2⟩
  ·exact .inr ⟨Nat.le_trans h1 h3,h4⟩
 ·have e1:=h.keep g hg (fun b hb=>hn b (hs b hb))
  refine (k.keep g (Nat.lt_of_lt_of_le hg h.size) (fun b hb hl e=>?_)).trans e1
  rcases h.nu b g e with h3 | ⟨h3,h4,h5⟩
  ·exact hn b hb (old b g hl h3) h3
  ·rcases h5 with h5 | ⟨b0,h5,h6,h7⟩
   ·omega
   ·exact hn b0 (hs b0 h5) h6 h7
 ·have e1:=h.same b (fun hm=>hb (hs b hm)) (by omega)
  exact (k.same b hb (by omega)).trans e1
 ·rcases k.live b hb with h3 | ⟨h3,h4⟩
  ·rcases h.live b h3 with h5 | ⟨h5,h6⟩
   ·exact .inl h5
   ·exact .inr ⟨h5,by omega⟩
  ·exact .inr ⟨by omega,h4⟩
theorem Nx.fresh {w0:World} {E E1:Env} {H H1:Nat→Option Ob} {c c1 c2:Nat} {wl:List Nat} {w w1:World} (h:Nx w0 E H c w E1 H1 c1 wl w1) (hf:Fresh E c c2) (h1:c≤c1):Fresh E1 c1 c2:=fun b hb hb'=>by
 obtain ⟨f1,f2⟩:=hf b (Nat.le_trans h1 hb) hb'
 refine ⟨?_,?_⟩
 ·cases e:E1.ν b with
  | none=>rfl
  | some g =>
   rcases h.nu b g e with h3 | ⟨_,h4,_⟩
   ·rw [f1] at h3; cases h3
   ·omega
 ·cases e:E1.κ b with
  | none=>rfl
  | some g =>
   rcases h.kap b g e with h3 | ⟨_,h4⟩
   ·rw [f2] at h3; cases h3
   ·omega
noncomputable def Env.new (E:Env) (c g:Nat) (k:Option Nat):Env:=⟨E.ρ,fun b=>if b=c then some g else E.ν b,fun i=>if i=c then k else E.κ i⟩
section
variable {P:Program} {E:Env} {H:PT Ob} {c:Nat} {w0 w w':World}
theorem Wr.dead (h:Wr w0 E H.get w) {c:Nat} (hf:E.ν c=none):H.get c=none:=by
 cases e:H.get c with
 | none=>rfl
 | some o =>
  obtain ⟨g,obj,h1,_⟩:=h.lr c o e
  rw [hf] at h1; cases h1
theorem ext_new (f1:E.ν c=none) (f2:E.κ c=none) (g:Nat) (k:Option Nat):Ext E (E.new c g k):=by
 refine ⟨rfl,fun b x hb=>?_,fun i x hi=>?_⟩
 ·show (if b=c then some g else E.ν b)=some x
  rw [if_neg (fun e=>by rw [e,f1] at hb; cases hb)]; exact hb
 ·show (if i=c then k else E.κ i)=some x
  rw [if_neg (fun e=>by rw [e,f2] at hi; cases hi)]; exact hi
theorem new_ν (E:Env) (c g:Nat) (k:Option Nat):(E.new c g k).ν c=some g:=if_pos rfl
theorem new_κ (E:Env) (c g:Nat) (k:Option Nat):(E.new c g k).κ c=k:=if_pos rfl
theorem new_ν' {E:Env} {c g b x:Nat} {k:Option Nat} (h:(E.new c g k).ν b=some x):(b=c∧x=g)∨(b≠c∧E.ν b=some x):=by
 have h:(if b=c then some g else E.ν b)=some x:=h
 by_cases e:b=c
 ·rw [if_pos e] at h; injection h with h; exact .inl ⟨e,h.symm⟩
 ·rw [if_neg e] at h; exact .inr ⟨e,h⟩
theorem new_κ' {E:Env} {c g b x:Nat} {k:Option Nat} (h:(E.new c g k).κ b=some x):b=c∨E.κ b=some x:=by
 have h:(if b=c then k else E.κ b)=some x:=h
 by_cases e:b=c
 ·exact .inl e
 ·rw [if_neg e] at h; exact .inr h
theorem agree0 {G:List Nat} {Hf:Nat→Option Ob} (h:Wr w0 E Hf w) (hG:∀ g∈G,w0.heap.size≤g) (ha:Agree G w w'):Agree [] w0 w' :=
 ⟨ha.os.trans h.agree.os,ha.tape.trans h.agree.tape,ha.output.trans h.agree.output,Nat.le_trans h.agree.size ha.size,fun b hb _=>by
  rw [ha.frame b (Nat.lt_of_lt_of_le hb h.agree.size) (fun hm=>by have:=hG b hm; omega)]
  exact h.agree.frame b hb (by simp)⟩
theorem nx_new (h:Wr w0 E H.get w) (f1:E.ν c=none) (f2:E.κ c=none) {g:Nat} {k:Option Nat} {ob:Ob} {obj:Obj} (ha:Agree [] w w') (hg:w.heap.size≤g) (hh:w'.heap[g]?=some obj) (ho:OR (E.new c g k) ob obj) (wl:List Nat):Nx w0 E H.get c w (E.new c g k) (H.put c (some ob)).get (Nat.succ c) wl w':=by
 have hx:=ext_new f1 f2 g k
 have hlt:g<w'.heap.size:=(Array.getElem?_eq_some_iff.1 hh).1
 have live:∀ b,(H.put c (some ob)).get b≠none→b=c∨(b≠c∧H.get b≠none):=fun b hb=>by
  by_cases e:b=c
  ·exact .inl e
  ·rw [PT.put_other _ _ e] at hb; exact .inr ⟨e,hb⟩
 refine ⟨hx,⟨agree0 h (by simp) ha,fun b o hb=>?_,fun b g' hb=>?_,fun b b' g' hb hb' h1 h2=>?_⟩,ha.size,fun b x hb=>?_,fun i k' hi=>?_,fun x hx' _=>ha.frame x hx' (by simp),fun b hb hr=>?_,fun b hb=>?_⟩
 ·by_cases e:b=c
  ·subst e
   rw [PT.put_same] at hb
   injection hb with hb
   subst hb
   exact ⟨g,obj,new_ν E _ g k,hh,ho⟩
  ·rw [PT.put_other _ _ e] at hb
   obtain ⟨g',obj',h1,h2,h3⟩:=h.lr b o hb
   exact ⟨g',obj',hx.ν _ _ h1,(ha.frame g' (Array.getElem?_eq_some_iff.1 h2).1 (by simp)).trans h2,h3.mono hx⟩
 ·have:=h.agree.size
  have hsz:=ha.size
  rcases new_ν' hb with ⟨_,e⟩ | ⟨_,e⟩
  ·exact ⟨by omega,by omega⟩
  ·have:=h.own b g' e
   exact ⟨by omega,by omega⟩
 ·rcases new_ν' h1 with ⟨p,p2⟩ | ⟨p,p2⟩ <;> rcases new_ν' h2 with ⟨q,q2⟩ | ⟨q,q2⟩
  ·rw [p,q]
  ·have:=(h.own b' g' q2).2; omega
  ·have:=(h.own b g' p2).2; omega
  ·rcases live b hb with e | ⟨_,e⟩
   ·exact absurd e p
   ·rcases live b' hb' with e' | ⟨_,e'⟩
    ·exact absurd e' q
    ·exact h.inj b b' g' e e' p2 q2
 ·rcases new_ν' hb with ⟨e,e2⟩ | ⟨_,e⟩
  ·exact .inr ⟨by omega,by omega,.inl (by omega)⟩
  ·exact .inl e
 ·rcases new_κ' hi with e | e
  ·exact .inr ⟨by omega,by omega⟩
  ·exact .inl e
 ·exact PT.put_other _ _ (by omega)
 ·rcases live b hb with e | ⟨_,e⟩
  ·exact .inr ⟨by omega,by omega⟩
  ·exact .inl e
theorem nx_set (h:Wr w0 E H.get w) {b g:Nat} {o ob:Ob} {obj:Obj} (hb:H.get b=some o) (hg:E.ν b=some g) (ha:Agree [g] w w') (hh:w'.heap[g]?=some obj) (ho:OR E ob obj) (wl:List Nat):Nx w0 E H.get c w E (H.put b (some ob)).get c (ins b wl) w':=by
 have hown:=h.own b g hg
 have live:∀ b',(H.put b (some ob)).get b'≠none→H.get b'≠none:=fun b' hb'=>by
  by_cases e:b'=b
  ·subst e; rw [hb]; simp
  ·rwa [PT.put_other _ _ e] at hb'
 have other:∀ b' g' o',H.get b'=some o'→E.ν b'=some g'→b'≠b→w'.heap[g']?=w.heap[g']?:=fun b' g' o' hb' hg' hne =>
  ha.frame g' (h.own b' g' hg').2 (fun hm=>hne (h.inj b' b g' (by rw [hb']; simp) (by rw [hb]; simp) hg' (by rw [List.mem_singleton.1 hm]; exact hg)))
 refine ⟨Ext.refl E,⟨agree0 h (fun x hx=>by rw [List.mem_singleton.1 hx]; exact hown.1) ha,fun b' o' hb'=>?_,fun b' g' hb'=>?_,fun b1 b2 g' h1 h2=>h.inj b1 b2 g' (live b1 h1) (live b2 h2)⟩,ha.size,fun _ _ h => .inl h,fun _ _ h => .inl h,fun x hx hn=>?_,fun b' hb' _=>?_,fun b' hb' => .inl (live b' hb')⟩
 ·by_cases e:b'=b
  ·subst e
   rw [PT.put_same] at hb'
   injection hb' with hb'
   subst hb'
   exact ⟨g,obj,hg,hh,ho⟩
  ·rw [PT.put_other _ _ e] at hb'
   obtain ⟨g',obj',h1,h2,h3⟩:=h.lr b' o' hb'
   exact ⟨g',obj',h1,(other b' g' o' hb' h1 e).trans h2,h3⟩
 ·have:=h.own b' g' hb'
  have:=ha.size
  exact ⟨by omega,by omega⟩
 ·exact ha.frame x hx (fun hm=>hn b mem_ins (by rw [hb]; simp) (by rw [List.mem_singleton.1 hm]; exact hg))
 ·exact PT.put_other _ _ (fun e=>hb' (by rw [e]; exact mem_ins))
theorem nx_app (h:Wr w0 E H.get w) (f1:E.ν c=none) (f2:E.κ c=none) {b g g':Nat} {o ob:Ob} {obj:Obj} {k:Option Nat} (hb:H.get b=some o) (hg:E.ν b=some g) (ha:Agree [g] w w') (hg':g'=g∨w.heap.size≤g') (hh:w'.heap[g']?=some obj) (ho:OR (E.new c g' k) ob obj) (wl:List Nat):Nx w0 E H.get c w (E.new c g' k) ((H.put b none).put c (some ob)).get (Nat.succ c) (ins b wl) w':=by
 have hx:=ext_new f1 f2 g' k
 have hown:=h.own b g hg
 have hlt:g'<w'.heap.size:=(Array.getElem?_eq_some_iff.1 hh).1
 have hbc:b≠c:=by rintro rfl; rw [f1] at hg; cases hg
 have live:∀ b',((H.put b none).put c (some ob)).get b'≠none→b'=c∨(b'≠c∧b'≠b∧H.get b'≠none):=fun b' hb'=>by
  by_cases e:b'=c
  ·exact .inl e
  ·rw [PT.put_other _ _ e] at hb'
   by_cases e2:b'=b
   ·subst e2; rw [PT.put_same] at hb'; exact absurd rfl hb'
   ·rw [PT.put_other _ _ e2] at hb'; exact .inr ⟨e,e2,hb'⟩
 have notg:∀ b' x,H.get b'≠none→E.ν b'=some x→b'≠b→x≠g:=fun b' x h1 h2 hne e=>hne (h.inj b' b x h1 (by rw [hb]; simp) h2 (by rw [e]; exact hg))
 have other:∀ b' x,H.get b'≠none→E.ν b'=some x→b'≠b→w'.heap[x]?=w.heap[x]?:=fun b' x h1 h2 hne =>
  ha.frame x (h.own b' x h2).2 (fun hm=>notg b' x h1 h2 hne (List.mem_singleton.1 hm))
 have notg':∀ b' x,H.get b'≠none→E.ν b'=some x→b'≠b→x≠g':=fun b' x h1 h2 hne e=>by
  have:=(h.own b' x h2).2
  rcases hg' with h3 | h3
  ·exact notg b' x h1 h2 hne (e.trans h3)
  ·omega
 refine ⟨hx,⟨agree0 h (fun x hx=>by rw [List.mem_singleton.1 hx]; exact hown.1) ha,fun b' o' hb'=>?_,fun b' x hb'=>?_,fun b1 b2 x h1 h2 e1 e2=>?_⟩,ha.size,fun b' x hb'=>?_,fun i k' hi=>?_,fun x hx' hn=>?_,fun b' hb' hr=>?_,fun b' hb'=>?_⟩
 ·by_cases e:b'=c
  ·subst e
   rw [PT.put_same] at hb'
   injection hb' with hb'
   subst hb'
   exact ⟨g',obj,new_ν E _ g' k,hh,ho⟩
  ·rw [PT.put_other _ _ e] at hb'
   by_cases e2:b'=b
   ·subst e2; rw [PT.put_same] at hb'; cases hb'
   ·rw [PT.put_other _ _ e2] at hb'
    obtain ⟨x,obj',h1,h2,h3⟩:=h.lr b' o' hb'
    exact ⟨x,obj',hx.ν _ _ h1,(other b' x (by rw [hb']; simp) h1 e2).trans h2,h3.mono hx⟩
 ·have:=ha.size
  have hs:=h.agree.size
  rcases new_ν' hb' with ⟨_,e⟩ | ⟨_,e⟩
  ·rcases hg' with h3 | h3
   ·exact ⟨by omega,by omega⟩
   ·exact ⟨by omega,by omega⟩
  ·have:=h.own b' x e
   exact ⟨by omega,by omega⟩
 ·rcases new_ν' e1 with ⟨p,p2⟩ | ⟨p,p2⟩ <;> rcases new_ν' e2 with ⟨q,q2⟩ | ⟨q,q2⟩
  ·rw [p,q]
  ·rcases live b2 h2 with e | ⟨_,e,e'⟩
   ·exact absurd e q
   ·exact absurd p2 (notg' b2 x e' q2 e)
  ·rcases live b1 h1 with e | ⟨_,e,e'⟩
   ·exact absurd e p
   ·exact absurd q2 (notg' b1 x e' p2 e)
  ·rcases live b1 h1 with e | ⟨_,e,e'⟩
   ·exact absurd e p
   ·rcases live b2 h2 with r | ⟨_,r,r'⟩
    ·exact absurd r q
    ·exact h.inj b1 b2 x e' r' p2 q2
 ·rcases new_ν' hb' with ⟨e,e2⟩ | ⟨_,e⟩
  ·refine .inr ⟨by omega,by omega,?_⟩
   rcases hg' with h3 | h3
   ·exact .inr ⟨b,mem_ins,by rw [hb]; simp,by rw [hg,e2,h3]⟩
   ·exact .inl (by omega)
  ·exact .inl e
 ·rcases new_κ' hi with e | e
  ·exact .inr ⟨by omega,by omega⟩
  ·exact .inl e
 ·exact ha.frame x hx' (fun hm=>hn b mem_ins (by rw [hb]; simp) (by rw [List.mem_singleton.1 hm]; exact hg))
 ·have hne:b'≠b:=fun e=>hb' (by rw [e]; exact mem_ins)
  rw [PT.put_other _ _ (by omega),PT.put_other _ _ hne]
 ·rcases live b' hb' with e | ⟨_,_,e⟩
  ·exact .inr ⟨by omega,by omega⟩
  ·exact .inl e
end
end Go.Run
namespace Go.Run
open Go.Eng
set_option linter.unusedVariables false
set_option linter.unusedSimpArgs false
def Does (P:Program) (o:Oper) (a:Act) (w:World) (u:Value) (w':World):Prop:=(execOp a.eval o).run P w = .ok (.value u) w'∨((execOp a.eval o).run P w = .ok .skip w'∧u=undef)
theorem Does.wp {P:Program} {o:Oper} {a:Act} {w w':World} {u:Value} {K:Act→World→Prop} {Q:Exit→Act→World→Prop} (h:Does P o a w u w') (k:K (a.put o.dst u) w'):o.wp P a w K Q:=by
 unfold Oper.wp
 rcases h with h | ⟨h,rfl⟩
 ·rw [h,Oper.upon_value]; exact k
 ·rw [h,Oper.upon_skip]; exact k
section
variable {P:Program} {E:Env} {F:Fm} {FL:FL} {n:Nat} {a:Act} {w0:World} {H:PT Ob} {c:Nat} {w w':World} {o:Oper}
theorem agree_push (w:World) (obj:Obj):Agree [] w { w with heap:=w.heap.push obj }∧(w.heap.push obj)[w.heap.size]?=some obj :=
 ⟨⟨rfl,rfl,rfl,by simp,fun b hb _=>by simp [Array.getElem?_push,Nat.ne_of_lt hb]⟩,by simp⟩
noncomputable def rho0:Rho:=⟨fun _=>dI 0,fun _ a=>a,fun _ a _=>a,fun _ a _ _=>a⟩
def Eff (P:Program) (w0:World) (E:Env) (H:PT Ob) (c:Nat) (o:Oper) (a:Act) (w:World) (v:V) (M:Mm):Prop :=
 ∃ u w' E',Does P o a w u w'∧Nx w0 E H.get c w E' M.H.get M.c M.wl w'∧VR E' v u
theorem or_none {E:Env} {cs:List V} {e:Nat} {us:Array Value} (h:VRs E cs us.toList):OR E ⟨cs,e,none⟩ (.cells us e (0,0)):=⟨us.toList,h,by simp⟩
theorem f_alloc {t:TypeId} {z:List V} {wl:List Nat} {pc:List (X × Bool)} (hF:FRel E F FL) (hfr:Fr ⟨n,[]⟩ a FL) (hw:Wr w0 E H.get w) (fn:E.ν c=none) (fk:E.κ c=none) (ho:o.op = .alloc t) (hz:zv P t=some z) :
  Eff P w0 E H c o a w (.ptr c 0) (Mm.new ⟨H,c,wl,pc⟩ ⟨z,t,none⟩):=by
 obtain ⟨zz,h1,h2⟩:=zv_ok (E:=E.new c w.heap.size none) hz
 obtain ⟨i,hi,hzz⟩:=Option.bind_eq_some_iff.1 h1
 obtain ⟨p1,p2⟩:=agree_push w (.cells zz.cells t)
 refine ⟨.pointer (some ⟨w.heap.size,0,none⟩),{ w with heap:=w.heap.push (.cells zz.cells t) },E.new c w.heap.size none,.inl ?_,nx_new hw fn fk p1 (Nat.le_refl _) p2 (or_none h2) wl,⟨_,new_ν E c _ _,rfl⟩⟩
 simp [execOp,ho,Instr.alloc,zeroValue,typeInfo,program,Sem.run,hi,hzz,newVar,newRow,newObj]
theorem f_box {t:TypeId} {x:Operand} {v:V} {wl:List Nat} {pc:List (X × Bool)} (hF:FRel E F FL) (hfr:Fr ⟨n,[]⟩ a FL) (hw:Wr w0 E H.get w) (fn:E.ν c=none) (fk:E.κ c=none) (ho:o.op = .box t x) (hx:eo F x=some v) :
  Eff P w0 E H c o a w (.ptr c 0) (Mm.new ⟨H,c,wl,pc⟩ ⟨cells v,t,none⟩):=by
 obtain ⟨u,e,r⟩:=eo_ok hF hx
 have hex:=ext_new fn fk w.heap.size none
 obtain ⟨p1,p2⟩:=agree_push w (.cells u.cells t)
 refine ⟨.pointer (some ⟨w.heap.size,0,none⟩),{ w with heap:=w.heap.push (.cells u.cells t) },E.new c w.heap.size none,.inl ?_,nx_new hw fn fk p1 (Nat.le_refl _) p2 (or_none (cells_ok (VR.mono hex _ _ r))) wl,⟨_,new_ν E c _ _,rfl⟩⟩
 simp [execOp,ho,hfr.ev e,Instr.box,Sem.run,newVar,newRow,newObj]
theorem or_upd {ob:Ob} {obj:Obj} {cs vs:List V} {off:Nat} {xs:List Value} (h:OR E ob obj) (hu:upd ob.cells off vs=some cs) (hx:VRs E vs xs):∃ cur,obj = .cells cur ob.e (0,0)∧off+xs.length≤cur.size∧∀ arr:Array Value,arr.toList=cur.toList.take off ++ (xs ++ cur.toList.drop (off+xs.length))→OR E ⟨cs,ob.e,ob.more⟩ (.cells arr ob.e (0,0)):=by
 unfold OR at h
 split at h
 ·rename_i hm
  obtain ⟨us,h1,rfl⟩:=h
  obtain ⟨k1,k2⟩:=upd_ok hu h1 hx
  rw [← h1.len,← hx.len] at k1
  refine ⟨us.toArray,rfl,by simpa using k1,fun arr ha=>?_⟩
  unfold OR
  simp only [hm]
  refine ⟨_,k2,?_⟩
  congr 1
  apply Array.toList_inj.1
  rw [ha]
 ·rename_i cap m hm
  obtain ⟨us,cur,k,h1,h2,rfl,h4,h5,h6⟩:=h
  obtain ⟨k1,k2⟩:=upd_ok hu h1 hx
  rw [← h1.len,← hx.len] at k1
  obtain ⟨rest,hcur⟩:∃ rest,cur.toList=us ++ rest:=⟨cur.toList.drop us.length,by
   have:=(List.take_append_drop us.length cur.toList).symm
   rwa [h4] at this⟩
  have hlen:us.length+rest.length=cur.size:=by rw [← Array.length_toList,hcur,List.length_append]
  refine ⟨cur,rfl,by omega,fun arr ha=>?_⟩
  rw [hcur,List.take_append_of_le_length (by omega),List.drop_append_of_le_length (by omega),← List.append_assoc xs,← List.append_assoc] at ha
  unfold OR
  simp only [hm]
  have hl:(us.take off ++ (xs ++ us.drop (off+xs.length))).length=us.length:=by
   simp only [List.length_append,List.length_take,List.length_drop]; omega
  refine ⟨_,arr,k,k2,h2,rfl,?_,?_,h6⟩
  ·rw [ha,List.take_left' rfl]
  ·rw [← Array.length_toList,ha,List.length_append,hl,hlen]; exact h5
theorem one_eq (v:Value) (h:v.oneCell'=true):Eng.one v=true:=by cases v <;> first | rfl | (cases h; done)
theorem f_store {t:TypeId} {x y:Operand} {v:V} {b off m:Nat} {ob:Ob} {cs:List V} {wl:List Nat} {pc:List (X × Bool)} (hF:FRel E F FL) (hfr:Fr ⟨n,[]⟩ a FL) (hw:Wr w0 E H.get w) (ho:o.op = .store t x y) (hm:szv P t=some m) (hx:eo F x=some (.ptr b off)) (hy:eo F y=some v) (hb:H.get b=some ob) (hl:Nat.beq (ln (cells v)) m=true) (h1:ones (cells v)=true) (hu:upd ob.cells off (cells v)=some cs) :
  Eff P w0 E H c o a w .und (Mm.set ⟨H,c,wl,pc⟩ b ⟨cs,ob.e,ob.more⟩):=by
 obtain ⟨_,e1,g,hg,rfl⟩:=eo_ok hF hx
 obtain ⟨u,e2,r⟩:=eo_ok hF hy
 obtain ⟨g',obj,q1,q2,q3⟩:=hw.lr b ob hb
 rw [hg] at q1
 injection q1 with q1
 subst q1
 have hc:=cells_ok r
 obtain ⟨cur,rfl,k1,k2⟩:=or_upd q3 hu hc
 have hl:=Nat.eq_of_beq_eq_true hl
 rw [ln_eq,← hc.len] at hl
 obtain ⟨Hp,cs',g1,g2,g3,g4,g5,g6⟩:=run_storeCells_w (P:=P) (off:=off) u.cells.toList 0 cur w q2 (by simpa using k1) (fun v hv=>one_eq v (ones_ok hc h1 v hv))
 have hcs:cs'.toList=cur.toList.take off ++ (u.cells.toList ++ cur.toList.drop (off+u.cells.toList.length)):=by rw [g6]; simp
 refine ⟨undef,{ w with heap:=Hp },E,.inr ⟨?_,rfl⟩,nx_set hw hb hg (show Agree [g] w { w with heap:=Hp } from ⟨rfl,rfl,rfl,by show _≤Hp.size; omega,fun k hk hn=>g4 k (fun e=>hn (by rw [e]; exact List.mem_singleton_self _))⟩) g3 (k2 cs' hcs) wl,rfl⟩
 have hl':u.cells.size=m:=by simpa using hl
 simp only [execOp,ho,hfr.ev e1,hfr.ev e2,Instr.storeAt,Instr.sureAddr,storeVar,Sem.run_bind,Sem.run_pure,Result.andThen_ok,run_size (szv_ok hm),hl',ne_eq,not_true,if_false,g1]
theorem rep_eq {α:Type}:∀ (k:Nat) (l:List α),(rep k l).length=k * l.length∧∀ i,i<k * l.length→(rep k l)[i]?=l[i % l.length]?
 | 0,l=>⟨by simp [rep],fun i hi=>by simp at hi⟩
 | k+1,l=>by
  obtain ⟨h1,h2⟩:=rep_eq k l
  unfold rep
  rw [ap_eq]
  refine ⟨by rw [List.length_append,h1,Nat.succ_mul,Nat.add_comm],fun i hi=>?_⟩
  by_cases h:i<l.length
  ·rw [List.getElem?_append_left h,Nat.mod_eq_of_lt h]
  ·have e:(k+1) * l.length=k * l.length+l.length:=Nat.succ_mul _ _
   rw [List.getElem?_append_right (by omega),h2 _ (by omega),Nat.mod_eq_sub_mod (a:=i) (by omega)]
theorem VRs.rep_ {E:Env} {l:List V} {us:List Value} (h:VRs E l us):∀ k,VRs E (rep k l) (rep k us)
 | 0=>rfl
 | k+1=>by unfold rep; rw [ap_eq,ap_eq]; exact h.app (VRs.rep_ h k)
theorem made_eq (z:Array Value) (k m:Nat) (hm:z.size=m) (h0:0<m):((Array.range (k * m)).map (fun i=>z[i % z.size]!)).toList=rep k z.toList:=by
 obtain ⟨h1,h2⟩:=rep_eq k z.toList
 have hz:z.toList.length=m:=by simpa using hm
 rw [hz] at h1 h2
 apply List.ext_getElem?
 intro i
 by_cases hi:i<k * m
 ·rw [h2 i hi]
  have hlt:i % m<z.size:=by rw [hm]; exact Nat.mod_lt _ h0
  have hlt':i<(Array.map (fun i=>z[i % z.size]!) (Array.range (k * m))).size:=by simpa using hi
  rw [Array.getElem?_toList,Array.getElem?_eq_getElem hlt',Array.getElem_map,Array.getElem_range,hm,getElem!_pos z (i % m) hlt,Array.getElem?_toList,Array.getElem?_eq_getElem hlt]
 ·rw [List.getElem?_eq_none (by simp; omega),List.getElem?_eq_none (by omega)]
theorem elw_ok {t e:TypeId} {m bytes:Nat} {z:List V} (h:elw P t=some (e,m,bytes,z)):P.underlying t=some (.slice e)∧0<m∧∃ i zz,P.info? e=some i∧i.zero=some zz∧i.size=m∧i.bytes=bytes∧zz.cells.size=m∧∀ E,VRs E z zz.cells.toList:=by
 unfold elw at h
 split at h <;> first | (cases h; done) | skip
 rename_i e' he
 split at h <;> first | (cases h; done) | skip
 rename_i i z' hi hz
 split at h <;> first | (cases h; done) | skip
 rename_i k1 k2
 cases h
 obtain ⟨zz,h1,h2⟩:=zv_ok (E:=⟨rho0,fun _=>none,fun _=>none⟩) hz
 rw [hi] at h1
 have k1:=Nat.eq_of_beq_eq_true k1
 have k2:=Nat.le_of_ble_eq_true k2
 refine ⟨elv_ok he,k2,i,zz,hi,h1,rfl,rfl,?_,fun E=>?_⟩
 ·have:=h2.len
  rw [Array.length_toList] at this
  rw [this,← ln_eq,k1]
 ·obtain ⟨z2,h3,h4⟩:=zv_ok (E:=E) hz
  rw [hi] at h3
  have:zz=z2:=Option.some.inj (h1.symm.trans h3)
  rw [this]; exact h4
theorem map_range0 (f:Nat→Value):(Array.range 0).map f=#[]:=by apply Array.ext <;> simp
theorem f_bslice {t e:TypeId} {len m bytes:Nat} {ps:Array (Nat × Operand)} {z cs:List V} {vs:List (Nat × V)} {wl:List Nat} {pc:List (X × Bool)} (hF:FRel E F FL) (hfr:Fr ⟨n,[]⟩ a FL) (hw:Wr w0 E H.get w) (fn:E.ν c=none) (fk:E.κ c=none) (ho:o.op = .buildSlice t len ps) (he:elw P t=some (e,m,bytes,z)) (hv:eps F ps.toList=some vs) (hl:Nat.ble (Nat.mul len m) 16777216=true) (hc:fillG (fun i=>some (Nat.mul i m,m)) (rep len z) vs=some cs) :
  Eff P w0 E H c o a w (.sl c 0 len (.n len)) (Mm.new ⟨H,c,wl,pc⟩ ⟨cs,e,none⟩):=by
 obtain ⟨h1,h2,i,zz,h3,h4,h5,h6,h7,h8⟩:=elw_ok he
 have hex:=ext_new fn fk w.heap.size none
 obtain ⟨us,e1,r1,e2⟩:=eps_ok (hF.mono hex) hv
 have hm:=made_eq zz.cells len m h7 h2
 obtain ⟨ws,q1,q2⟩:=fillG_ok (E:=E.new c w.heap.size none) (pl':=fun i=>some (i * m,m)) (zs:=(Array.range (len * m)).map (zz.cells[· % zz.cells.size]!)) (fun i q hq=>hq) hc (by rw [hm]; exact (h8 _).rep_ len) r1
 rw [e2] at q2
 have e3:(ps.map fun (i,x)=>(i,a.eval x)).toList=(ps.toList.map (·.1)).zip us:=by
  rw [← hfr.evs e1]
  simp [List.zip_map',Function.comp_def]
 have hzv:(zeroValue e).run P w = .ok zz w:=by
  unfold zeroValue typeInfo
  simp [program,Sem.run,h3,h4]
 obtain ⟨p1,p2⟩:=agree_push w (.cells ws e)
 refine ⟨.slice (some ⟨w.heap.size,0,none⟩) len len,{ w with heap:=w.heap.push (.cells ws e) },E.new c w.heap.size none,.inl ?_,nx_new hw fn fk p1 (Nat.le_refl _) p2 (or_none q1) wl,⟨_,len,new_ν E c _ _,rfl,Nat.le_refl _,rfl⟩⟩
 have hl':¬ (len * m > 2 ^ 24):=by have:=Nat.le_of_ble_eq_true hl; simp only [Nat.mul_eq] at this; omega
 by_cases hz:len * m=0
 ·have q3:Instr.fill (fun i=>some (i * m,m)) #[] ((ps.toList.map (·.1)).zip us)=some ws:=by rw [hz,map_range0] at q2; exact q2
  have hl0:¬ (0 > 2 ^ 24):=by omega
  simp only [execOp,ho,Instr.buildSlice,Sem.run_bind,Sem.run_pure,Result.andThen_ok,run_underlying h1,run_size (show (P.info? e).map (·.size)=some m by rw [h3]; simp [h5]),hz,hl0,if_false,if_true,e3]
  simp [newRow,newObj,Sem.run,map_range0,q3]
 ·simp only [execOp,ho,Instr.buildSlice,Sem.run_bind,Sem.run_pure,Result.andThen_ok,run_underlying h1,run_size (show (P.info? e).map (·.size)=some m by rw [h3]; simp [h5]),hl',hz,if_false,hzv,e3,q2]
  simp [newRow,newObj,Sem.run]
theorem f_mslice {t e:TypeId} {m bytes k q:Nat} {x y:Operand} {kx ky:IntKind} {z:List V} {wl:List Nat} {pc:List (X × Bool)} (hF:FRel E F FL) (hfr:Fr ⟨n,[]⟩ a FL) (hw:Wr w0 E H.get w) (fn:E.ν c=none) (fk:E.κ c=none) (ho:o.op = .makeSlice t x y) (he:elw P t=some (e,m,bytes,z)) (hx:eo F x=some (.int kx (.lit (.ofNat k)))) (hy:eo F y=some (.int ky (.lit (.ofNat q)))) (hkq:Nat.ble k q=true) (hf:fits q 0 bytes=true) :
  Eff P w0 E H c o a w (.sl c 0 k (.n q)) (Mm.new ⟨H,c,wl,pc⟩ ⟨rep q z,e,none⟩):=by
 obtain ⟨h1,h2,i,zz,h3,h4,h5,h6,h7,h8⟩:=elw_ok he
 have hex:=ext_new fn fk w.heap.size none
 obtain ⟨u1,e1,r1⟩:=eo_ok hF hx
 obtain ⟨u2,e2,r2⟩:=eo_ok hF hy
 rw [show u1 = .int kx (.ofNat k) from r1] at e1
 rw [show u2 = .int ky (.ofNat q) from r2] at e2
 unfold fits at hf
 rw [Bool.and_eq_true] at hf
 have f1:=Nat.le_of_ble_eq_true hf.1
 have f2:=Nat.le_of_ble_eq_true hf.2
 have hkq:=Nat.le_of_ble_eq_true hkq
 simp only [Nat.add_eq,Nat.mul_eq,Nat.add_zero] at f1 f2
 have hb1:((q * bytes:Nat):Int)≤140737488355328:=by omega
 rw [Int.natCast_mul,Int.mul_comm] at hb1
 have hrun:=run_make (P:=P) w t e i zz h1 h3 h4 kx ky (k:Int) (q:Int) (by omega) (by omega) (by rw [h6]; omega) (by simp only [maxLen] at f2; omega)
 have hm:(madeCells zz.cells (q * i.size)).toList=rep q zz.cells.toList:=by rw [h5]; exact made_eq zz.cells q m h7 h2
 obtain ⟨p1,p2⟩:=agree_push w (.cells (madeCells zz.cells (q * i.size)) e)
 refine ⟨.slice (some ⟨w.heap.size,0,none⟩) k q,{ w with heap:=w.heap.push (.cells (madeCells zz.cells (q * i.size)) e) },E.new c w.heap.size none,.inl ?_,nx_new hw fn fk p1 (Nat.le_refl _) p2 (or_none (by rw [hm]; exact (h8 _).rep_ q)) wl,⟨_,q,new_ν E c _ _,rfl,hkq,rfl⟩⟩
 simp only [execOp,ho,hfr.ev e1,hfr.ev e2,Sem.run_bind,Sem.run_pure,Result.andThen_ok,Int.ofNat_eq_natCast,hrun,Int.toNat_natCast]
 rfl
theorem agree_of {g:Nat} (h:w.grownBy w' (some g)):Agree [g] w w':=⟨h.os,h.tape,h.output,h.size,fun b hb hn=>h.block b hb (fun e=>hn (by cases e; exact List.mem_singleton_self _))⟩
theorem agree_of0 (h:w.grownBy w' none):Agree [] w w':=⟨h.os,h.tape,h.output,h.size,fun b hb _=>h.block b hb (by simp)⟩
theorem run_app0 {t ty e:TypeId} {m:Nat} (ht:P.underlying t=some (.slice e)) (hm:(P.info? e).map (·.size)=some m) (A B:Option Addr) (q cp c':Nat) (hq:q≤cp) (w:World):(Builtin.append_ #[t,t] ty #[.slice A q cp,.slice B 0 c']).run P w = .ok (.slice A q cp) w:=by
 have hq':q+0≤cp:=hq
 cases B <;> cases A <;> simp [Builtin.append_,run_underlying ht,run_size hm,Builtin.lenOf,Builtin.firstCells,hq,Nat.not_lt.2 hq,storeCells,loadCells,loadCellsFrom]
end
end Go.Run
namespace Go.Run
open Go.Eng
set_option linter.unusedVariables false
set_option linter.unusedSimpArgs false
section
variable {P:Program} {E:Env} {F:Fm} {FL:FL} {n:Nat} {a:Act} {w0:World} {H:PT Ob} {c:Nat} {w w':World} {o:Oper}
theorem run_append_call {cl:Call} {x y:Operand} {t:TypeId} {u v:Value} (hfr:Fr ⟨n,[]⟩ a FL) (ho:o.op = .call cl) (hc:cl.callee = .builtin .append) (hca:cl.args.toList=[x,y]) (hct:cl.argTypes.toList=[t,t]) (hx:ev FL x=some u) (hy:ev FL y=some v) {r:Value} (h:(Builtin.append_ #[t,t] o.type #[u,v]).run P w = .ok r w'):(execOp a.eval o).run P w = .ok (.value r) w':=by
 have h1:cl.args=#[x,y]:=Array.toList_inj.1 (by simpa using hca)
 have h2:cl.argTypes=#[t,t]:=Array.toList_inj.1 (by simpa using hct)
 simp only [execOp,ho,resolve,hc,h1,h2,Sem.run_bind,Sem.run_pure,Result.andThen_ok,invoke,builtin,List.map_toArray,List.map_cons,List.map_nil,hfr.ev hx,hfr.ev hy,h]
theorem f_app0 {cl:Call} {x y:Operand} {t e:TypeId} {m bytes:Nat} {z:List V} {u v:V} {wl:List Nat} {pc:List (X × Bool)} (hF:FRel E F FL) (hfr:Fr ⟨n,[]⟩ a FL) (hw:Wr w0 E H.get w) (ho:o.op = .call cl) (hc:cl.callee = .builtin .append) (hca:cl.args.toList=[x,y]) (hct:cl.argTypes.toList=[t,t]) (he:elw P t=some (e,m,bytes,z)) (hx:eo F x=some u) (hy:eo F y=some v)
  (hu:u = .nsl∨∃ b off q cap,u = .sl b off q cap) (hv:v = .nsl∨∃ b off cap,v = .sl b off 0 cap):Eff P w0 E H c o a w u ⟨H,c,wl,pc⟩:=by
 obtain ⟨h1,h2,i,zz,h3,h4,h5,h6,h7,h8⟩:=elw_ok he
 obtain ⟨u1,e1,r1⟩:=eo_ok hF hx
 obtain ⟨v1,e2,r2⟩:=eo_ok hF hy
 have hs:(P.info? e).map (·.size)=some m:=by rw [h3]; simp [h5]
 have hu':∃ A q cp,u1 = .slice A q cp∧q≤cp:=by
  rcases hu with rfl | ⟨b,off,q,cap,rfl⟩
  ·exact ⟨none,0,0,r1,Nat.le_refl _⟩
  ·obtain ⟨g,cp,_,_,hl,rfl⟩:=r1
   exact ⟨_,q,cp,rfl,hl⟩
 have hv':∃ B cp,v1 = .slice B 0 cp:=by
  rcases hv with rfl | ⟨b,off,cap,rfl⟩
  ·exact ⟨none,0,r2⟩
  ·obtain ⟨g,cp,_,_,hl,rfl⟩:=r2
   exact ⟨_,cp,rfl⟩
 obtain ⟨A,q,cp,rfl,hq⟩:=hu'
 obtain ⟨B,cp',rfl⟩:=hv'
 exact ⟨_,w,E,.inl (run_append_call hfr ho hc hca hct e1 e2 (run_app0 h1 hs A B q cp cp' hq w)),Nx.refl hw c wl,r1⟩
theorem app_src {b off k m:Nat} {ob:Ob} {ns:List V} (hw:Wr w0 E H.get w) (hb:H.get b=some ob) {g:Nat} (hg:E.ν b=some g) (hp:prt ob.cells off (Nat.mul k m)=some ns):∃ news,VRs E ns news∧news.length=k * m∧∀ j u,news[j]?=some u→w.cell? ((⟨g,off,none⟩:Addr).add j)=some u:=by
 obtain ⟨us,cur,h1,h2,h3⟩:=live_ hw hb hg
 obtain ⟨p1,rfl,p2⟩:=prt_ok hp h1
 rw [← h1.len] at p1
 refine ⟨_,p2,by rw [List.length_take,List.length_drop]; simp only [Nat.mul_eq] at p1 ⊢; omega,fun j u hu=>?_⟩
 rw [addr_add]
 rw [List.getElem?_take] at hu
 split at hu
 ·rw [List.getElem?_drop] at hu
  have:=take_at h3 hu
  simp [World.cell?,h2,this]
 ·cases hu
theorem f_appN {cl:Call} {x y:Operand} {t e:TypeId} {m bytes b off k:Nat} {cap:Cap} {z ns:List V} {ob:Ob} {wl:List Nat} {pc:List (X × Bool)} (hF:FRel E F FL) (hfr:Fr ⟨n,[]⟩ a FL) (hw:Wr w0 E H.get w) (fn:E.ν c=none) (fk:E.κ c=none) (ho:o.op = .call cl) (hc:cl.callee = .builtin .append) (hca:cl.args.toList=[x,y]) (hct:cl.argTypes.toList=[t,t]) (he:elw P t=some (e,m,bytes,z)) (hx:eo F x=some .nsl) (hy:eo F y=some (.sl b off k cap))
  (hb:H.get b=some ob) (hk:Nat.blt 0 k=true) (hp:prt ob.cells off (Nat.mul k m)=some ns) (h1:ones ns=true) (hf:fits 0 k bytes=true):Eff P w0 E H c o a w (.sl c 0 k (.u c 0)) (Mm.new ⟨H,c,wl,pc⟩ ⟨ns,e,some (.u c 0,m)⟩):=by
 obtain ⟨q1,q2,i,zz,q3,q4,q5,q6,q7,q8⟩:=elw_ok he
 obtain ⟨u1,e1,r1⟩:=eo_ok hF hx
 rw [show u1 = .slice none 0 0 from r1] at e1
 obtain ⟨v1,e2,g,cp,hg,_,_,rfl⟩:=eo_ok hF hy
 obtain ⟨news,n1,n2,n3⟩:=app_src hw hb hg hp
 have hk:=Nat.le_of_ble_eq_true hk
 unfold fits at hf
 rw [Bool.and_eq_true] at hf
 have f1:=Nat.le_of_ble_eq_true hf.1
 have f2:=Nat.le_of_ble_eq_true hf.2
 have hown:w.ownsRow w.heap.size e m (.slice none 0 0) 0 []:=⟨by simp,.inl ⟨rfl,rfl⟩⟩
 obtain ⟨v',w',hrun,hrow,hgrow,hnil⟩:=run_append_own (P:=P) w w.heap.size t o.type e i zz m bytes q1 q3 q4 q5 q6 q7 q2 (.slice none 0 0) 0 [] hown ⟨g,off,none⟩ k cp news n2 n3 (ones_ok n1 h1) f2 f1 (Nat.le_refl _)
 obtain ⟨hl,hcase⟩:=hrow
 rcases hcase with ⟨rfl,h0⟩ | ⟨g',cap',cur,rfl,hg',hgh,hnc,hcm,hsz,htk⟩
 ·omega
 ·simp only [Nat.zero_add,List.nil_append] at hnc htk hrun hl
  have hex:=ext_new fn fk g' (some cap')
  refine ⟨_,w',E.new c g' (some cap'),.inl (run_append_call hfr ho hc hca hct e1 e2 hrun),nx_new hw fn fk (agree_of0 hgrow) hg' hgh ?_ wl,⟨g',cap',new_ν E c _ _,⟨cap',new_κ E c _ _,rfl⟩,hnc,rfl⟩⟩
  refine ⟨news,cur,cap',VRs.mono hex _ _ n1,⟨cap',new_κ E c _ _,rfl⟩,rfl,?_,hsz,hcm⟩
  rw [hl]; exact htk
theorem room_ok {ob:Ob} {obj:Obj} {cap:Cap} {m cp:Nat} (h:OR E ob obj) (hr:roomOk ob cap m=true) (hc:cap.ok E cp):∃ us cur,VRs E ob.cells us∧obj = .cells cur ob.e (0,0)∧cur.toList.take us.length=us∧cur.size=cp * m∧cp≤maxLen:=by
 unfold roomOk at hr
 unfold OR at h
 split at hr
 ·rename_i c' hm
  rw [hm] at h
  obtain ⟨us,h1,rfl⟩:=h
  rw [Bool.and_eq_true] at hr
  have r1:=Nat.eq_of_beq_eq_true hr.1
  have r2:=Nat.le_of_ble_eq_true hr.2
  have hcc:cp=c':=hc
  subst hcc
  refine ⟨us,us.toArray,h1,rfl,by simp,?_,r2⟩
  rw [List.size_toArray,h1.len,← ln_eq,r1]; rfl
 ·rename_i i d m' i' d' hm
  rw [hm] at h
  obtain ⟨us,cur,k,h1,⟨k1,h2,rfl⟩,rfl,h4,h5,h6⟩:=h
  rw [Bool.and_eq_true,Bool.and_eq_true] at hr
  have r1:=Nat.eq_of_beq_eq_true hr.1.1
  have r2:=Nat.eq_of_beq_eq_true hr.1.2
  have r3:=Nat.eq_of_beq_eq_true hr.2
  subst r1 r2 r3
  obtain ⟨k2,h7,rfl⟩:=hc
  rw [h2] at h7
  injection h7 with h7
  subst h7
  exact ⟨us,cur,h1,rfl,h4,h5,h6⟩
 ·cases hr
theorem f_appR {cl:Call} {x y:Operand} {t e:TypeId} {m bytes b off k b' off' q:Nat} {cap cap':Cap} {z ns os:List V} {ob ob':Ob} {wl:List Nat} {pc:List (X × Bool)} (hF:FRel E F FL) (hfr:Fr ⟨n,[]⟩ a FL) (hw:Wr w0 E H.get w) (fn:E.ν c=none) (fk:E.κ c=none) (ho:o.op = .call cl) (hc:cl.callee = .builtin .append) (hca:cl.args.toList=[x,y]) (hct:cl.argTypes.toList=[t,t]) (he:elw P t=some (e,m,bytes,z)) (hx:eo F x=some (.sl b off q cap)) (hy:eo F y=some (.sl b' off' k cap'))
  (hb':H.get b'=some ob') (hp:prt ob'.cells off' (Nat.mul k m)=some ns) (h1:ones ns=true) (hb:H.get b=some ob) (hf:fits q k bytes=true) (hp2:prt ob.cells off (Nat.mul q m)=some os) (h0:Nat.beq off 0=true) (hoe:Nat.beq ob.e e=true) (hr:roomOk ob cap m=true) :
  Eff P w0 E H c o a w (.sl c 0 (Nat.add q k) (.u c 0)) ⟨(H.put b none).put c (some ⟨ap os ns,e,some (.u c 0,m)⟩),Nat.succ c,ins b wl,pc⟩:=by
 obtain ⟨q1,q2,i,zz,q3,q4,q5,q6,q7,q8⟩:=elw_ok he
 obtain ⟨u1,e1,g,cp,hg,hcp,hqc,rfl⟩:=eo_ok hF hx
 obtain ⟨v1,e2,g1,cp1,hg1,_,_,rfl⟩:=eo_ok hF hy
 have h0:=Nat.eq_of_beq_eq_true h0
 subst h0
 have hoe:=Nat.eq_of_beq_eq_true hoe
 obtain ⟨news,n1,n2,n3⟩:=app_src hw hb' hg1 hp
 unfold fits at hf
 rw [Bool.and_eq_true] at hf
 have f1:=Nat.le_of_ble_eq_true hf.1
 have f2:=Nat.le_of_ble_eq_true hf.2
 obtain ⟨gx,obj,l1,l2,l3⟩:=hw.lr b ob hb
 rw [hg] at l1
 injection l1 with l1
 subst l1
 obtain ⟨us,cur,m1,rfl,m3,m4,m5⟩:=room_ok l3 hr hcp
 obtain ⟨p1,p2,p3⟩:=prt_ok hp2 m1
 rw [← m1.len] at p1
 simp only [Nat.mul_eq,Nat.zero_add,List.drop_zero] at p1 p2 p3
 have hol:(us.take (q * m)).length=q * m:=by rw [List.length_take]; omega
 have htk0:cur.toList.take (q * m)=us.take (q * m):=by
  conv=>rhs; rw [← m3]
  rw [List.take_take,Nat.min_eq_left p1]
 rw [hoe] at l2
 have hown:w.ownsRow 0 e m (.slice (some ⟨g,0,none⟩) q cp) q (us.take (q * m)):=⟨hol,.inr ⟨g,cp,cur,rfl,Nat.zero_le _,l2,hqc,m5,m4,htk0⟩⟩
 obtain ⟨v',w',hrun,hrow,hgrow,hnil,hat⟩:=run_append_own_at (P:=P) w 0 t o.type e i zz m bytes q1 q3 q4 q5 q6 q7 q2 _ q _ hown ⟨g1,off',none⟩ k cp1 news n2 n3 (ones_ok n1 h1) f2 f1 (Nat.zero_le _)
 obtain ⟨hl,hcase⟩:=hrow
 rcases hcase with ⟨rfl,h0⟩ | ⟨g',cap2,cur',rfl,_,hgh,hnc,hcm,hsz,htk⟩
 ·have:=hnil.1 rfl; cases this.1
 ·have hex:=ext_new fn fk g' (some cap2)
  refine ⟨_,w',E.new c g' (some cap2),.inl (run_append_call hfr ho hc hca hct e1 e2 hrun),nx_app hw fn fk hb hg (agree_of hgrow) (by simp [Value.ownBlock] at hat; omega) hgh ?_ wl,⟨g',cap2,new_ν E c _ _,⟨cap2,new_κ E c _ _,rfl⟩,hnc,rfl⟩⟩
  refine ⟨us.take (q * m) ++ news,cur',cap2,?_,⟨cap2,new_κ E c _ _,rfl⟩,rfl,?_,hsz,hcm⟩
  ·show VRs _ (ap os ns) _
   rw [ap_eq]
   exact VRs.app (VRs.mono hex _ _ p3) (VRs.mono hex _ _ n1)
  ·rw [hl]; exact htk
theorem f_appG {cl:Call} {x y:Operand} {t e:TypeId} {m bytes b off k b' off' q:Nat} {cap cap':Cap} {z ns os:List V} {ob ob':Ob} {wl:List Nat} {pc:List (X × Bool)} (hF:FRel E F FL) (hfr:Fr ⟨n,[]⟩ a FL) (hw:Wr w0 E H.get w) (fn:E.ν c=none) (fk:E.κ c=none) (ho:o.op = .call cl) (hc:cl.callee = .builtin .append) (hca:cl.args.toList=[x,y]) (hct:cl.argTypes.toList=[t,t]) (he:elw P t=some (e,m,bytes,z)) (hx:eo F x=some (.sl b off q cap)) (hy:eo F y=some (.sl b' off' k cap'))
  (hb':H.get b'=some ob') (hk:Nat.blt 0 k=true) (hp:prt ob'.cells off' (Nat.mul k m)=some ns) (h1:ones ns=true) (hb:H.get b=some ob) (hf:fits q k bytes=true) (hp2:prt ob.cells off (Nat.mul q m)=some os) (hr:noRoom cap q=true) :
  Eff P w0 E H c o a w (.sl c 0 (Nat.add q k) (.u c 0)) (Mm.new ⟨H,c,wl,pc⟩ ⟨ap os ns,e,some (.u c 0,m)⟩):=by
 obtain ⟨q1,q2,i,zz,q3,q4,q5,q6,q7,q8⟩:=elw_ok he
 obtain ⟨u1,e1,g,cp,hg,hcp,hqc,rfl⟩:=eo_ok hF hx
 obtain ⟨v1,e2,g1,cp1,hg1,_,_,rfl⟩:=eo_ok hF hy
 obtain ⟨news,n1,n2,n3⟩:=app_src hw hb' hg1 hp
 obtain ⟨olds,m1,m2,m3⟩:=app_src hw hb hg hp2
 have hk:=Nat.le_of_ble_eq_true hk
 unfold fits at hf
 rw [Bool.and_eq_true] at hf
 have f1:=Nat.le_of_ble_eq_true hf.1
 have f2:=Nat.le_of_ble_eq_true hf.2
 have hcq:cp=q:=by
  unfold noRoom at hr
  split at hr
  ·rw [show cp=_ from hcp,Nat.eq_of_beq_eq_true hr]
  ·cases hr
 subst hcq
 obtain ⟨v',w',hrun,hrow,hgrow⟩:=run_append_arg_grows (P:=P) w t o.type e i zz m bytes q1 q3 q4 q5 q6 q7 q2 ⟨g,off,none⟩ cp cp olds m2 m3 ⟨g1,off',none⟩ k cp1 news n2 n3 (by omega) f2 f1
 obtain ⟨hl,hcase⟩:=hrow
 rcases hcase with ⟨rfl,h0⟩ | ⟨g',cap2,cur',rfl,hg',hgh,hnc,hcm,hsz,htk⟩
 ·omega
 ·have hex:=ext_new fn fk g' (some cap2)
  refine ⟨_,w',E.new c g' (some cap2),.inl (run_append_call hfr ho hc hca hct e1 e2 hrun),nx_new hw fn fk (agree_of0 hgrow) hg' hgh ?_ wl,⟨g',cap2,new_ν E c _ _,⟨cap2,new_κ E c _ _,rfl⟩,hnc,rfl⟩⟩
  refine ⟨olds ++ news,cur',cap2,?_,⟨cap2,new_κ E c _ _,rfl⟩,rfl,?_,hsz,hcm⟩
  ·show VRs _ (ap os ns) _
   rw [ap_eq]
   exact VRs.app (VRs.mono hex _ _ m1) (VRs.mono hex _ _ n1)
  ·rw [hl]; exact htk
theorem f_appZ {cl:Call} {x y:Operand} {t t' e:TypeId} {kd kd':IntKind} {m bytes k:Nat} {z:List V} {wl:List Nat} {pc:List (X × Bool)} (hF:FRel E F FL) (hfr:Fr ⟨n,[]⟩ a FL) (hw:Wr w0 E H.get w) (fn:E.ν c=none) (fk:E.κ c=none) (ho:o.op = .call cl) (hc:cl.callee = .builtin .append) (hca:cl.args.toList=[x,y]) (hct:cl.argTypes.toList=[t,t']) (he:elw P t=some (e,m,bytes,z)) (hx:eo F x=some .nsl) (hy:eo F y=some (.int kd (.lit (.ofNat k)))) (htn:ikv P t'=some kd') (hk:Nat.blt 0 k=true) (hf:fits 0 k bytes=true) :
  Eff P w0 E H c o a w (.sl c 0 k (.u c 0)) (Mm.new ⟨H,c,wl,pc⟩ ⟨rep k z,e,some (.u c 0,m)⟩):=by
 obtain ⟨q1,q2,i,zz,q3,q4,q5,q6,q7,q8⟩:=elw_ok he
 obtain ⟨u1,e1,r1⟩:=eo_ok hF hx
 rw [show u1 = .slice none 0 0 from r1] at e1
 obtain ⟨v1,e2,r2⟩:=eo_ok hF hy
 rw [show v1 = .int kd (k:Int) from r2] at e2
 have hk:0<k:=Nat.le_of_ble_eq_true hk
 unfold fits at hf
 rw [Bool.and_eq_true] at hf
 have f1:=Nat.le_of_ble_eq_true hf.1
 have f2:=Nat.le_of_ble_eq_true hf.2
 simp only [Nat.add_eq,Nat.mul_eq,Nat.zero_add] at f1 f2
 have hrun:=Lib.run_append_nil_zeros (P:=P) w t t' o.type e i zz kd kd' q1 (ikv_ok htn) q3 q4 k hk (by omega) (by simp only [maxLen] at f2; omega) (by rw [q6]; omega)
 have hex:=ext_new fn fk w.heap.size (some (grownCap w k 0 e))
 have ha1:cl.args=#[x,y]:=Array.toList_inj.1 (by simpa using hca)
 have ha2:cl.argTypes=#[t,t']:=Array.toList_inj.1 (by simpa using hct)
 have hge:=grownCap_ge w k 0 e
 have hcm:grownCap w k 0 e≤maxLen:=grownCap_le_maxLen w k 0 e f2
 have hag:Agree [] w (w.drew.alloc (.cells (Builtin.zeroCells zz.cells k ++ Builtin.zeroCells zz.cells (grownCap w k 0 e - k)) e)):=⟨rfl,rfl,rfl,by simp,fun b hb _=>heap_alloc_old w.drew _ hb⟩
 refine ⟨.slice (some ⟨w.heap.size,0,none⟩) k (grownCap w k 0 e),w.drew.alloc (.cells (Builtin.zeroCells zz.cells k ++ Builtin.zeroCells zz.cells (grownCap w k 0 e - k)) e),E.new c w.heap.size (some (grownCap w k 0 e)),.inl ?_,nx_new hw fn fk hag (Nat.le_refl _) (heap_alloc_new w.drew _) ?_ wl,⟨_,grownCap w k 0 e,new_ν E c _ _,⟨_,new_κ E c _ _,rfl⟩,hge,rfl⟩⟩
 ·simp only [execOp,ho,resolve,hc,ha1,ha2,Sem.run_bind,Sem.run_pure,Result.andThen_ok,invoke,builtin,List.map_toArray,List.map_cons,List.map_nil,hfr.ev e1,hfr.ev e2,hrun]
 ·have hm:(Builtin.zeroCells zz.cells k).toList=rep k zz.cells.toList:=by
   have:=made_eq zz.cells k m q7 q2
   rw [← this,← q7]
   rfl
  have hlen:(rep k zz.cells.toList).length=k * m:=by rw [(rep_eq k zz.cells.toList).1,Array.length_toList,q7]
  have hz2:(Builtin.zeroCells zz.cells (grownCap w k 0 e - k)).size=(grownCap w k 0 e - k) * m:=by simp [Builtin.zeroCells,q7]
  refine ⟨rep k zz.cells.toList,_,grownCap w k 0 e,(q8 _).rep_ k,⟨_,new_κ E c _ _,rfl⟩,rfl,?_,?_,hcm⟩
  ·rw [Array.toList_append,hm]; exact List.take_left
  ·rw [Array.size_append,hz2,← Array.length_toList,hm,hlen,← Nat.add_mul]
   congr 1
   omega
theorem f_copy {cl:Call} {x y:Operand} {t t' e:TypeId} {bytes b off len b' off' len':Nat} {cap cap':Cap} {z ns cs:List V} {ob ob':Ob} {wl:List Nat} {pc:List (X × Bool)} (hF:FRel E F FL) (hfr:Fr ⟨n,[]⟩ a FL) (hw:Wr w0 E H.get w) (ho:o.op = .call cl) (hc:cl.callee = .builtin .copy) (hca:cl.args.toList=[x,y]) (hct:cl.argTypes.toList=[t,t']) (he:elw P t=some (e,1,bytes,z)) (hx:eo F x=some (.sl b off len cap)) (hy:eo F y=some (.sl b' off' len' cap'))
  (hb:H.get b=some ob) (hb':H.get b'=some ob') (hp:prt ob'.cells off' (Nat.min len' len)=some ns) (h1:ones ns=true) (hu:upd ob.cells off ns=some cs) :
  Eff P w0 E H c o a w (.int .i64 (.lit (.ofNat (Nat.min len' len)))) (Mm.set ⟨H,c,wl,pc⟩ b ⟨cs,ob.e,ob.more⟩):=by
 obtain ⟨q1,q2,i,zz,q3,q4,q5,q6,q7,q8⟩:=elw_ok he
 obtain ⟨u1,e1,g,cp,hg,hcp,hqc,rfl⟩:=eo_ok hF hx
 obtain ⟨v1,e2,g1,cp1,hg1,_,_,rfl⟩:=eo_ok hF hy
 obtain ⟨news,n1,n2,n3⟩:=app_src (k:=Nat.min len' len) (m:=1) hw hb' hg1 (by rw [Nat.mul_eq,Nat.mul_one]; exact hp)
 rw [Nat.mul_one] at n2
 obtain ⟨gx,obj,l1,l2,l3⟩:=hw.lr b ob hb
 rw [hg] at l1
 injection l1 with l1
 subst l1
 obtain ⟨cur,rfl,k1,k2⟩:=or_upd l3 hu n1
 have hs:(P.info? e).map (·.size)=some 1:=by rw [q3]; simp [q5]
 have hrun:=run_copy_row (P:=P) w t t' o.type e g off len cp ⟨g1,off',none⟩ len' cp1 cur ob.e news q1 hs l2 n2 n3 k1 (ones_ok n1 h1)
 have ha1:cl.args=#[x,y]:=Array.toList_inj.1 (by simpa using hca)
 have ha2:cl.argTypes=#[t,t']:=Array.toList_inj.1 (by simpa using hct)
 have hr:(execOp a.eval o).run P w = .ok (.value (goInt news.length)) (w.setRow g (cur.toList.take off ++ news ++ cur.toList.drop (off+news.length)).toArray):=by
  simp only [execOp,ho,resolve,hc,ha1,ha2,Sem.run_bind,Sem.run_pure,Result.andThen_ok,invoke,builtin,List.map_toArray,List.map_cons,List.map_nil,hfr.ev e1,hfr.ev e2,hrun]
 have hag:Agree [g] w (w.setRow g (cur.toList.take off ++ news ++ cur.toList.drop (off+news.length)).toArray):=by
  refine ⟨rfl,rfl,rfl,by simp [World.setRow],fun k hk hn=>?_⟩
  simp only [World.setRow,Array.getElem?_modify]
  rw [if_neg (fun e=>hn (by rw [e]; exact List.mem_singleton_self _))]
 refine ⟨goInt news.length,_,E,.inl hr,nx_set hw hb hg hag ?_ (k2 (cur.toList.take off ++ news ++ cur.toList.drop (off+news.length)).toArray (by simp)) wl,?_⟩
 ·simp [World.setRow,Array.getElem?_modify,l2]
 ·rw [n2]; rfl
theorem blt0:∀ q,Nat.blt 0 q=false→q=0
 | 0,_=>rfl
 | q+1,h=>by cases h
theorem eopK_eq (op:Op) (P:Program) (F:Fm) (H:PT Ob) (c:Nat) (wl:List Nat) (pc:List (X × Bool)) (d:Option Nat):eopK op P F H c wl pc d=eop P F ⟨H,c,wl,pc⟩ d op:=by
 cases op <;> rfl
theorem eop_ok {M M':Mm} {op:Op} {d:Option Nat} {v:V} (hF:FRel E F FL) (hfr:Fr ⟨n,[]⟩ a FL) (hw:Wr w0 E M.H.get w) (ho:o.op=op) (h:eop P F M d op=some (v,M')) (hfs:Fresh E M.c M'.c):Eff P w0 E M.H M.c o a w v M':=by
 obtain ⟨H,c,wl,pc⟩:=M
 unfold eop at h
 dsimp only at h
 split at h
 ·unfold r_alloc at h
  split at h <;> first | (cases h; done) | skip
  rename_i h1
  cases h
  exact f_alloc hF hfr hw (hfs _ (Nat.le_refl _) (Nat.lt_succ_self _)).1 (hfs _ (Nat.le_refl _) (Nat.lt_succ_self _)).2 ho h1
 ·unfold r_box at h
  split at h <;> first | (cases h; done) | skip
  rename_i h1
  cases h
  exact f_box hF hfr hw (hfs _ (Nat.le_refl _) (Nat.lt_succ_self _)).1 (hfs _ (Nat.le_refl _) (Nat.lt_succ_self _)).2 ho h1
 ·unfold r_store at h
  split at h <;> first | (cases h; done) | skip
  rename_i h1 h2 h3
  split at h <;> first | (cases h; done) | skip
  rename_i h4 h5 h6
  split at h <;> first | (cases h; done) | skip
  rename_i h7
  cases h
  exact f_store hF hfr hw ho h1 h2 h3 h4 h5 h6 h7
 ·unfold r_bsl at h
  split at h <;> first | (cases h; done) | skip
  rename_i h1 h2
  split at h <;> first | (cases h; done) | skip
  rename_i h3 h4
  cases h
  exact f_bslice hF hfr hw (hfs _ (Nat.le_refl _) (Nat.lt_succ_self _)).1 (hfs _ (Nat.le_refl _) (Nat.lt_succ_self _)).2 ho h1 h2 h3 h4
 ·unfold r_msl at h
  split at h <;> first | (cases h; done) | skip
  rename_i h1 h2 h3
  split at h <;> first | (cases h; done) | skip
  rename_i h4 h5
  cases h
  exact f_mslice hF hfr hw (hfs _ (Nat.le_refl _) (Nat.lt_succ_self _)).1 (hfs _ (Nat.le_refl _) (Nat.lt_succ_self _)).2 ho h1 h2 h3 h4 h5
 ·unfold r_call at h
  split at h <;> first | (cases h; done) | skip
  ·rename_i hc hca hct
   split at h <;> first | (cases h; done) | skip
   ·rename_i h1 h2 h3 h4
    have h1:=Nat.eq_of_beq_eq_true h1
    subst h1
    split at h <;> first | (cases h; done) | skip
    ·split at h <;> first | (cases h; done) | skip
     ·cases h
      exact f_app0 hF hfr hw ho hc hca hct h2 h3 h4 (.inl rfl) (.inl rfl)
     ·cases h
      exact f_app0 hF hfr hw ho hc hca hct h2 h3 h4 (.inr ⟨_,_,_,_,rfl⟩) (.inl rfl)
    ·split at h <;> first | (cases h; done) | skip
     ·rename_i h5 h6
      split at h <;> first | (cases h; done) | skip
      rename_i h7
      split at h <;> first | (cases h; done) | skip
      ·rename_i h8
       split at h <;> first | (cases h; done) | skip
       rename_i h9
       cases h
       exact f_appN hF hfr hw (hfs _ (Nat.le_refl _) (Nat.lt_succ_self _)).1 (hfs _ (Nat.le_refl _) (Nat.lt_succ_self _)).2 ho hc hca hct h2 h3 h4 h5 h6 h7 h8 h9
      ·rename_i h8
       split at h <;> first | (cases h; done) | skip
       rename_i h9 h10
       split at h <;> first | (cases h; done) | skip
       ·rename_i h11 h12
        cases h
        exact f_appG hF hfr hw (hfs _ (Nat.le_refl _) (Nat.lt_succ_self _)).1 (hfs _ (Nat.le_refl _) (Nat.lt_succ_self _)).2 ho hc hca hct h2 h3 h4 h5 h6 h7 h8 h9 h10 h11 h12
       rename_i h11 _ h12 h13 h14
       cases h
       exact f_appR hF hfr hw (hfs _ (Nat.le_refl _) (Nat.lt_succ_self _)).1 (hfs _ (Nat.le_refl _) (Nat.lt_succ_self _)).2 ho hc hca hct h2 h3 h4 h5 h7 h8 h9 h10 h11 h12 h13 h14
     ·rename_i h5 h6
      rw [blt0 _ h6] at h4
      split at h <;> first | (cases h; done) | skip
      ·cases h
       exact f_app0 hF hfr hw ho hc hca hct h2 h3 h4 (.inl rfl) (.inr ⟨_,_,_,rfl⟩)
      ·cases h
       exact f_app0 hF hfr hw ho hc hca hct h2 h3 h4 (.inr ⟨_,_,_,_,rfl⟩) (.inr ⟨_,_,_,rfl⟩)
   ·rename_i h1 h2 h3 h4
    split at h <;> first | (cases h; done) | skip
    rename_i h5 h6 h7
    cases h
    exact f_appZ hF hfr hw (hfs _ (Nat.le_refl _) (Nat.lt_succ_self _)).1 (hfs _ (Nat.le_refl _) (Nat.lt_succ_self _)).2 ho hc hca hct h2 h3 h4 h5 h6 h7
  ·rename_i hc hca hct
   split at h <;> first | (cases h; done) | skip
   rename_i h2 h3 h4
   split at h <;> first | (cases h; done) | skip
   rename_i h5 h6
   split at h <;> first | (cases h; done) | skip
   rename_i h7
   split at h <;> first | (cases h; done) | skip
   rename_i h8 h9
   cases h
   exact f_copy hF hfr hw ho hc hca hct h2 h3 h4 h5 h6 h7 h8 h9
 ·cases h
end
end Go.Run
namespace Go.Run
open Go.Eng
set_option linter.unusedVariables false
set_option linter.unusedSimpArgs false
def PC (ρ:Rho) (pc:List (X × Bool)):Prop:=∀ p∈pc,(p.1.den ρ).b=p.2
theorem PC.cons {ρ:Rho} {pc:List (X × Bool)} {x:X} {b:Bool} (h:PC ρ pc) (hx:(x.den ρ).b=b):PC ρ ((x,b) :: pc):=fun p hp=>by
 rcases List.mem_cons.1 hp with rfl | hp
 ·exact hx
 ·exact h p hp
theorem pcf_ok {ρ:Rho}:∀ {pc:List (X × Bool)} {x:X} {b:Bool},PC ρ pc→pcf pc x=some b→(x.den ρ).b=b
 | [],x,b,_,h=>by cases h
 | (y,q) :: r,x,b,hp,h=>by
  unfold pcf at h
  split at h
  ·rename_i hs
   cases h
   rw [← X.same_ok hs]
   exact hp (y,q) List.mem_cons_self
  ·exact pcf_ok (fun p hm=>hp p (List.mem_cons_of_mem _ hm)) h
theorem joinO_ok {a b:Option Lv} {l:Lv} (h:joinO a b=some l):∃ x y,a=some x∧b=some y∧l=x ++ y:=by
 unfold joinO at h
 split at h <;> first | (cases h; done) | skip
 cases h
 exact ⟨_,_,rfl,rfl,ap_eq _ _⟩
theorem dec0_ok {ρ:Rho} {pc:List (X × Bool)} {x:X} {k:Bool→List (X × Bool)→Option Lv} {rs:Lv} (h:dec0 pc x k=some rs) (hp:PC ρ pc):∃ pc' rs',k (x.den ρ).b pc'=some rs'∧PC ρ pc'∧∀ l∈rs',l∈rs:=by
 unfold dec0 at h
 split at h
 ·rename_i b hb
  rw [← pcf_ok hp hb] at h
  exact ⟨pc,rs,h,hp,fun l hl=>hl⟩
 ·obtain ⟨a,b,h1,h2,rfl⟩:=joinO_ok h
  cases hx:(x.den ρ).b with
  | true=>exact ⟨_,a,h1,hp.cons hx,fun l hl=>List.mem_append_left _ hl⟩
  | false=>exact ⟨_,b,h2,hp.cons hx,fun l hl=>List.mem_append_right _ hl⟩
theorem dec_ok {ρ:Rho} {pc:List (X × Bool)} {x:X} {k:Bool→List (X × Bool)→Option Lv} {rs:Lv} (h:dec pc x k=some rs) (hp:PC ρ pc):∃ pc' rs',k (x.den ρ).b pc'=some rs'∧PC ρ pc'∧∀ l∈rs',l∈rs:=by
 unfold dec at h
 split at h
 ·exact ⟨pc,rs,h,hp,fun l hl=>hl⟩
 ·obtain ⟨pc',rs',h1,h2,h3⟩:=dec0_ok h hp
  exact ⟨pc',rs',h1,h2,h3⟩
 ·exact dec0_ok h hp
structure Sta (m m':Mm):Prop where
 le:m.c≤m'.c
 wl:∀ b∈m.wl,b∈m'.wl
 wlive:∀ b∈m'.wl,b∈m.wl∨m.H.get b≠none∨(m.c≤b∧b<m'.c)
 live:∀ b,m'.H.get b≠none→m.H.get b≠none∨(m.c≤b∧b<m'.c)
 same:∀ b,b ∉ m'.wl→(b<m.c∨m'.c≤b)→m'.H.get b=m.H.get b
theorem Sta.refl (m:Mm):Sta m m:=⟨Nat.le_refl _,fun _ h=>h,fun _ h => .inl h,fun _ h => .inl h,fun _ _ _=>rfl⟩
theorem Sta.wpc (m:Mm) (pc:List (X × Bool)):Sta m (m.wpc pc):=⟨Nat.le_refl _,fun _ h=>h,fun _ h => .inl h,fun _ h => .inl h,fun _ _ _=>rfl⟩
theorem Sta.trans {a b c:Mm} (h:Sta a b) (k:Sta b c):Sta a c:=by
 have h1:=h.le
 have h2:=k.le
 refine ⟨Nat.le_trans h1 h2,fun x hx=>k.wl x (h.wl x hx),fun x hx=>?_,fun x hx=>?_,fun x hx hr=>?_⟩
 ·rcases k.wlive x hx with h3 | h3 | ⟨h3,h4⟩
  ·rcases h.wlive x h3 with h5 | h5 | ⟨h5,h6⟩
   ·exact .inl h5
   ·exact .inr (.inl h5)
   ·exact .inr (.inr ⟨h5,by omega⟩)
  ·rcases h.live x h3 with h5 | ⟨h5,h6⟩
   ·exact .inr (.inl h5)
   ·exact .inr (.inr ⟨h5,by omega⟩)
  ·exact .inr (.inr ⟨by omega,h4⟩)
 ·rcases k.live x hx with h3 | ⟨h3,h4⟩
  ·rcases h.live x h3 with h5 | ⟨h5,h6⟩
   ·exact .inl h5
   ·exact .inr ⟨h5,by omega⟩
  ·exact .inr ⟨by omega,h4⟩
 ·exact (k.same x hx (by omega)).trans (h.same x (fun hm=>hx (k.wl x hm)) (by omega))
theorem Sta.new (m:Mm) (o:Ob):Sta m (m.new o):=by
 refine ⟨Nat.le_succ _,fun _ h=>h,fun _ h => .inl h,fun x hx=>?_,fun x hx hr=>?_⟩
 ·by_cases e:x=m.c
  ·exact .inr ⟨by omega,by show x<Nat.succ m.c; omega⟩
  ·have hx:(m.H.put m.c (some o)).get x≠none:=hx
   rw [PT.put_other _ _ e] at hx
   exact .inl hx
 ·have:x≠m.c:=by
   rcases hr with h | h
   ·omega
   ·have h:Nat.succ m.c≤x:=h
    omega
  exact PT.put_other _ _ this
theorem Sta.set {m:Mm} {b:Nat} {o:Ob} (o':Ob) (hb:m.H.get b=some o):Sta m (m.set b o'):=by
 refine ⟨Nat.le_refl _,fun _ h=>ins_iff.2 (.inr h),fun x hx=>?_,fun x hx=>?_,fun x hx hr=>?_⟩
 ·rcases ins_iff.1 hx with rfl | hx
  ·exact .inr (.inl (by rw [hb]; simp))
  ·exact .inl hx
 ·by_cases e:x=b
  ·subst e; exact .inl (by rw [hb]; simp)
  ·have hx:(m.H.put b (some o')).get x≠none:=hx
   rw [PT.put_other _ _ e] at hx
   exact .inl hx
 ·exact PT.put_other _ _ (fun e=>hx (by rw [e]; exact mem_ins))
theorem Sta.app {m:Mm} {b:Nat} {o:Ob} (o':Ob) (hb:m.H.get b=some o):Sta m ⟨(m.H.put b none).put m.c (some o'),Nat.succ m.c,ins b m.wl,m.pc⟩:=by
 refine ⟨Nat.le_succ _,fun _ h=>ins_iff.2 (.inr h),fun x hx=>?_,fun x hx=>?_,fun x hx hr=>?_⟩
 ·rcases ins_iff.1 hx with rfl | hx
  ·exact .inr (.inl (by rw [hb]; simp))
  ·exact .inl hx
 ·by_cases e:x=m.c
  ·exact .inr ⟨by omega,by show x<Nat.succ m.c; omega⟩
  ·have hx:((m.H.put b none).put m.c (some o')).get x≠none:=hx
   rw [PT.put_other _ _ e] at hx
   by_cases e2:x=b
   ·subst e2; rw [PT.put_same] at hx; exact absurd rfl hx
   ·rw [PT.put_other _ _ e2] at hx; exact .inl hx
 ·have h1:x≠m.c:=by
   rcases hr with h | h
   ·omega
   ·have h:Nat.succ m.c≤x:=h
    omega
  have h2:x≠b:=fun e=>hx (by rw [e]; exact mem_ins)
  show ((m.H.put b none).put m.c (some o')).get x=_
  rw [PT.put_other _ _ h1,PT.put_other _ _ h2]
theorem eop_sta {P:Program} {F:Fm} {M M':Mm} {d:Option Nat} {op:Op} {v:V} (h:eop P F M d op=some (v,M')):Sta M M'∧M'.pc=M.pc:=by
 unfold eop at h
 split at h
 split at h
 all_goals first | (cases h; done) | (unfold r_alloc at h) | (unfold r_box at h) | (unfold r_store at h) | (unfold r_bsl at h) | (unfold r_msl at h) | (unfold r_call at h)
 all_goals repeat' (split at h <;> first | (cases h; done) | skip)
 all_goals first
  | (cases h; done)
  | (cases h; exact ⟨Sta.refl _,rfl⟩)
  | (cases h; exact ⟨Sta.new _ _,rfl⟩)
  | (cases h; exact ⟨Sta.set _ (by assumption),rfl⟩)
  | (cases h; exact ⟨Sta.app _ (by assumption),rfl⟩)
def Good (ρ:Rho) (m:Mm) (ls:Lv) (R:Ex→St→Prop):Prop:=∃ l∈ls,PC ρ l.2.m.pc∧(l.1 = .pan∨(Sta m l.2.m∧R l.1 l.2))
theorem Good.sub {ρ:Rho} {m:Mm} {ls ls':Lv} {R:Ex→St→Prop} (h:Good ρ m ls R) (hs:∀ l∈ls,l∈ls'):Good ρ m ls' R:=by
 obtain ⟨l,h1,h2⟩:=h
 exact ⟨l,hs l h1,h2⟩
theorem Good.one {ρ:Rho} {m:Mm} {e:Ex} {s:St} {R:Ex→St→Prop} (hp:PC ρ s.m.pc) (hs:Sta m s.m) (h:R e s):Good ρ m [(e,s)] R:=⟨_,List.mem_singleton_self _,hp,.inr ⟨hs,h⟩⟩
theorem Good.pan {ρ:Rho} {m:Mm} {s:St} {R:Ex→St→Prop} (hp:PC ρ s.m.pc):Good ρ m [(.pan,s)] R:=⟨_,List.mem_singleton_self _,hp,.inl rfl⟩
theorem Good.mono {ρ:Rho} {m:Mm} {ls:Lv} {R R':Ex→St→Prop} (h:Good ρ m ls R) (hr:∀ e s,Sta m s.m→R e s→R' e s):Good ρ m ls R':=by
 obtain ⟨l,h1,h2,h3⟩:=h
 exact ⟨l,h1,h2,h3.imp id (fun h=>⟨h.1,hr _ _ h.1 h.2⟩)⟩
theorem Good.from {ρ:Rho} {m m':Mm} {ls:Lv} {R:Ex→St→Prop} (h:Good ρ m' ls R) (hs:Sta m m'):Good ρ m ls R:=by
 obtain ⟨l,h1,h2,h3⟩:=h
 exact ⟨l,h1,h2,h3.imp id (fun h=>⟨hs.trans h.1,h.2⟩)⟩
theorem bindL_eq (k:Ex→St→Option Lv) (e:Ex) (s:St) (r:Lv):bindL k ((e,s) :: r)=match k e s with
  | some l=>match bindL k r with | some m=>some (ap l m) | none=>none
  | none=>none:=by
 show Option.rec (motive:=fun _=>Option Lv) none (fun l=>Option.rec (motive:=fun _=>Option Lv) none (fun m=>some (ap l m)) (bindL k r)) (k e s)=_
 cases k e s with
 | none=>rfl
 | some l=>cases bindL k r <;> rfl
theorem bindL_mem {k:Ex→St→Option Lv}:∀ {ls rs:Lv},bindL k ls=some rs→∀ l∈ls,∃ r,k l.1 l.2=some r∧∀ x∈r,x∈rs
 | [],rs,h,l,hl=>by cases hl
 | (e,s) :: q,rs,h,l,hl=>by
  rw [bindL_eq] at h
  split at h <;> first | (cases h; done) | skip
  rename_i a ha
  split at h <;> first | (cases h; done) | skip
  rename_i b hb
  cases h
  rw [ap_eq]
  rcases List.mem_cons.1 hl with rfl | hl
  ·exact ⟨a,ha,fun x hx=>List.mem_append_left _ hx⟩
  ·obtain ⟨r,h1,h2⟩:=bindL_mem hb l hl
   exact ⟨r,h1,fun x hx=>List.mem_append_right _ (h2 x hx)⟩
theorem Good.bind {ρ:Rho} {m m':Mm} {ls rs:Lv} {R R':Ex→St→Prop} {k:Ex→St→Option Lv} (h:Good ρ m ls R) (hb:bindL k ls=some rs) (hp:∀ s r,k .pan s=some r→r=[(.pan,s)]) (hk:∀ e s r,k e s=some r→PC ρ s.m.pc→Sta m s.m→R e s→Good ρ m' r R'):Good ρ m' rs R':=by
 obtain ⟨l,h1,h2,h3⟩:=h
 obtain ⟨r,hr,hsub⟩:=bindL_mem hb l h1
 rcases h3 with h3 | ⟨h3,h4⟩
 ·rw [h3] at hr
  rw [hp _ _ hr] at hsub
  exact (Good.pan h2).sub hsub
 ·exact (hk _ _ _ hr h2 h3 h4).sub hsub
theorem needs_ok {ρ:Rho} {m0:Mm} {k:Mm→Option Lv} {R:Ex→St→Prop}:∀ {l:List X} {m:Mm} {rs:Lv},needs m k l=some rs→PC ρ m.pc→(∀ pc rs',k (m.wpc pc)=some rs'→PC ρ pc→(∀ x∈l,(x.den ρ).b=true)→Good ρ m0 rs' R)→Good ρ m0 rs R
 | [],m,rs,h,hp,hk=>hk m.pc rs h hp (fun x hx=>by cases hx)
 | x :: r,m,rs,h,hp,hk=>by
  unfold needs at h
  obtain ⟨pc',rs',h1,h2,h3⟩:=dec_ok h hp
  refine Good.sub ?_ h3
  cases hx:(x.den ρ).b with
  | true =>
   rw [hx] at h1
   refine needs_ok (m:=m.wpc pc') h1 h2 (fun pc rs'' e1 e2 e3=>hk pc rs'' e1 e2 (fun y hy=>?_))
   rcases List.mem_cons.1 hy with rfl | hy
   ·exact hx
   ·exact e3 y hy
  | false =>
   rw [hx] at h1
   cases h1
   exact Good.pan h2
theorem forkB_ok {ρ:Rho} {m0:Mm} {all:List Oper} {d:Option Nat} {v:V} {m:Mm} {k:V→Mm→Option Lv} {rs:Lv} {R:Ex→St→Prop} (h:forkB all d v m k=some rs) (hp:PC ρ m.pc)
  (hk:∀ v' pc rs',k v' (m.wpc pc)=some rs'→PC ρ pc→(∀ E u,E.ρ=ρ→VR E v u→VR E v' u)→Good ρ m0 rs' R):Good ρ m0 rs R:=by
 have same:k v m=some rs→Good ρ m0 rs R:=fun h=>hk v m.pc rs h hp (fun _ _ _ h=>h)
 unfold forkB at h
 split at h
 ·exact same h
 ·rename_i x hx
  split at h
  ·split at h
   ·obtain ⟨pc',rs',h1,h2,h3⟩:=dec_ok h hp
    refine (hk _ pc' rs' h1 h2 (fun E u e hv=>?_)).sub h3
    rw [show u = .bool (x.den E.ρ).b from hv,e]
    rfl
   ·exact same h
  ·exact same h
 ·exact same h
end Go.Run
namespace Go.Run
open Go.Eng
set_option linter.unusedVariables false
set_option linter.unusedSimpArgs false
structure En where
 r:Rec
 o:Oper
 v:V
 F:Fm
 K:PT Ob
 on:Bool
def Tch (r:Rec) (b:Nat):Prop:=b∈r.wl∨(r.c≤b∧b<r.c')
instance (r:Rec) (b:Nat):Decidable (Tch r b):=by unfold Tch; infer_instance
noncomputable def HD (D:Nat→Bool) (H0:Nat→Option Ob):List En→Nat→Option Ob
 | [],b=>H0 b
 | e :: r,b=>if D r.length=true∧Tch e.r b then e.K.get b else HD D H0 r b
noncomputable def FD (D:Nat→Bool) (F0:Nat→Option V):List En→Nat→Option V
 | [],t=>F0 t
 | e :: r,t=>if D r.length=true∧e.r.dst=some t then some e.v else FD D F0 r t
noncomputable def All:Nat→Bool:=fun _=>true
noncomputable def atI:List En→Nat→Option En
 | [],_=>none
 | e :: r,i=>if i=r.length then some e else atI r i
noncomputable def cAt (c0:Nat):List En→Nat
 | []=>c0
 | e :: _=>e.r.c'
noncomputable def wlAt (wl0:List Nat):List En→List Nat
 | []=>wl0
 | e :: r=>e.r.wl ++ wlAt wl0 r
def bit (a i:Nat):Prop:=Nat.land (Nat.shiftRight a i) 1=1
instance (a i:Nat):Decidable (bit a i):=by unfold bit; infer_instance
def OpS (P:Program) (ρ:Rho) (n:Nat) (F:Fm) (H:PT Ob) (c:Nat) (K:PT Ob) (c':Nat) (wl:List Nat) (v:V) (o:Oper):Prop :=
 ∀ (w0:World) (E:Env) (a:Act) (w:World) (k:Act→World→Prop) (Q:Exit→Act→World→Prop),E.ρ=ρ→FA E F n a→Wr w0 E H.get w→Fresh E c c' →
  (∀ E' u w',Nx w0 E H.get c w E' K.get c' wl w'→VR E' v u→k (a.put o.dst u) w')→o.wp P a w k Q
structure EnOK (P:Program) (ρ:Rho) (n:Nat) (ops:Array Oper) (F0:Nat→Option V) (H0:Nat→Option Ob) (c0:Nat) (e:En) (r:List En):Prop where
 at_:ops[r.length]?=some e.o
 dst:e.r.dst=e.o.dst
 dOk:dOk n e.o.dst=true
 pre:∀ i,bit e.r.pre i→i<r.length∧∃ x∈e.o.after,Region.binds .any x=true∧(i=x.on∨∃ e',atI r x.on=some e'∧bit e'.r.pre i)
 aft:∀ x∈e.o.after,Region.binds .any x=true→x.on<r.length
 fr:∀ t v,e.F.get t=some v→FD All F0 r t=some v∧∀ i e',atI r i=some e'→¬ bit e.r.pre i→e'.r.dst≠some t
 hp:∀ b ob,e.r.H.get b=some ob→HD All H0 r b=some ob∧∀ i e',atI r i=some e'→¬ bit e.r.pre i→¬ Tch e'.r b
 cl:∀ i e',atI r i=some e'→¬ bit e.r.pre i→∀ b∈e.r.wl,e'.r.H.get b=none
 nd:∀ i e',atI r i=some e'→∀ t,e.r.dst=some t→e'.r.dst≠some t
 c:e.r.c=cAt c0 r
 cc:e.r.c≤e.r.c'
 wlive:∀ b∈e.r.wl,e.r.H.get b≠none∨(e.r.c≤b∧b<e.r.c')
 live:∀ b,e.K.get b≠none→e.r.H.get b≠none∨(e.r.c≤b∧b<e.r.c')
 guard:gv ops.toList e.F e.o.guard=some e.on
 off:e.on=false→e.v = .und∧e.r.wl=[]∧e.r.c'=e.r.c
 sem:e.on=true→OpS P ρ n e.F e.r.H e.r.c e.K e.r.c' e.r.wl e.v e.o
inductive Tr (P:Program) (ρ:Rho) (n:Nat) (ops:Array Oper) (F0:Nat→Option V) (H0:Nat→Option Ob) (c0:Nat):List En→Prop where
 | nil:Tr P ρ n ops F0 H0 c0 []
 | cons {e:En} {r:List En}:EnOK P ρ n ops F0 H0 c0 e r→Tr P ρ n ops F0 H0 c0 r→Tr P ρ n ops F0 H0 c0 (e :: r)
section
variable {P:Program} {ρ:Rho} {n:Nat} {ops:Array Oper} {F0:Nat→Option V} {H0:Nat→Option Ob} {c0:Nat} {wl0:List Nat}
theorem atI_lt:∀ {es:List En} {i:Nat} {e:En},atI es i=some e→i<es.length
 | [],i,e,h=>by cases h
 | e0 :: r,i,e,h=>by
  unfold atI at h
  split at h
  ·simp; omega
  ·have:=atI_lt h; simp; omega
theorem atI_some:∀ {es:List En} {i:Nat},i<es.length→∃ e,atI es i=some e
 | [],i,h=>by simp at h
 | e0 :: r,i,h=>by
  unfold atI
  split
  ·exact ⟨_,rfl⟩
  ·exact atI_some (by simp at h; omega)
theorem atI_cons {e0 e:En} {r:List En} {i:Nat} (h:atI r i=some e):atI (e0 :: r) i=some e:=by
 unfold atI
 rw [if_neg (by have:=atI_lt h; omega)]
 exact h
theorem Tr.at_:∀ {es:List En} {i:Nat} {e:En},Tr P ρ n ops F0 H0 c0 es→atI es i=some e→∃ r,EnOK P ρ n ops F0 H0 c0 e r∧r.length=i∧Tr P ρ n ops F0 H0 c0 r∧∃ q,es=q ++ e :: r
 | [],i,e,h,hi=>by cases hi
 | e0 :: r,i,e,h,hi=>by
  cases h with
  | cons h1 h2 =>
   unfold atI at hi
   split at hi
   ·rename_i hl
    cases hi
    exact ⟨r,h1,hl.symm,h2,[],rfl⟩
   ·obtain ⟨r',k1,k2,k3,q,k4⟩:=Tr.at_ h2 hi
    exact ⟨r',k1,k2,k3,e0 :: q,by rw [k4]; rfl⟩
theorem atI_app:∀ {q r:List En} {i:Nat},i<r.length→atI (q ++ r) i=atI r i
 | [],r,i,h=>rfl
 | e :: q,r,i,h=>by
  show (if i=(q ++ r).length then some e else atI (q ++ r) i)=_
  rw [if_neg (by simp; omega)]
  exact atI_app h
theorem cAt_mono:∀ {es:List En},Tr P ρ n ops F0 H0 c0 es→c0≤cAt c0 es
 | [],h=>Nat.le_refl _
 | e :: r,h=>by
  cases h with
  | cons h1 h2 =>
   have:=cAt_mono h2
   have:=h1.cc
   have:=h1.c
   show c0≤e.r.c'
   omega
theorem cAt_app:∀ {q r:List En},Tr P ρ n ops F0 H0 c0 (q ++ r)→cAt c0 r≤cAt c0 (q ++ r)
 | [],r,h=>Nat.le_refl _
 | e :: q,r,h=>by
  cases h with
  | cons h1 h2 =>
   have h1:EnOK P ρ n ops F0 H0 c0 e (q ++ r):=h1
   have h2:Tr P ρ n ops F0 H0 c0 (q ++ r):=h2
   have:=cAt_app h2
   have:=h1.cc
   have:=h1.c
   show _≤e.r.c'
   omega
theorem at_c {es:List En} {i:Nat} {e:En} (h:Tr P ρ n ops F0 H0 c0 es) (hi:atI es i=some e):c0≤e.r.c∧e.r.c≤e.r.c'∧e.r.c'≤cAt c0 es:=by
 obtain ⟨r,h1,h2,h3,q,rfl⟩:=h.at_ hi
 have:=cAt_mono h3
 have:=h1.c
 refine ⟨by omega,h1.cc,?_⟩
 exact cAt_app h
theorem at_apart {es:List En} {i j:Nat} {e e':En} (h:Tr P ρ n ops F0 H0 c0 es) (hi:atI es i=some e) (hj:atI es j=some e') (hij:i<j):e.r.c'≤e'.r.c:=by
 obtain ⟨r,h1,h2,h3,q,rfl⟩:=h.at_ hj
 rw [h1.c]
 rw [show atI (q ++ e' :: r) i=atI r i by rw [atI_app (by simp; omega)]; unfold atI; rw [if_neg (by omega)]; cases r <;> rfl] at hi
 exact (at_c h3 hi).2.2
theorem at_wl:∀ {es:List En} {i:Nat} {e:En} {b:Nat},atI es i=some e→b∈e.r.wl→b∈wlAt wl0 es
 | [],i,e,b,h,hb=>by cases h
 | e0 :: r,i,e,b,h,hb=>by
  unfold atI at h
  split at h
  ·cases h; exact List.mem_append_left _ hb
  ·exact List.mem_append_right _ (at_wl h hb)
theorem HD_live:∀ {es:List En} {D:Nat→Bool} {b:Nat},Tr P ρ n ops F0 H0 c0 es→HD D H0 es b≠none→H0 b≠none∨(c0≤b∧b<cAt c0 es)
 | [],D,b,h,hb => .inl hb
 | e :: r,D,b,h,hb=>by
  cases h with
  | cons h1 h2 =>
   have h3:=cAt_mono h2
   have h4:=h1.cc
   have h5:=h1.c
   have key:∀ D',HD D' H0 r b≠none→H0 b≠none∨(c0≤b∧b<cAt c0 (e :: r)):=fun D' h=>by
    rcases HD_live h2 h with h6 | ⟨h6,h7⟩
    ·exact .inl h6
    ·refine .inr ⟨h6,?_⟩
     show b<e.r.c'
     omega
   unfold HD at hb
   split at hb
   ·rcases h1.live b hb with h6 | ⟨h6,h7⟩
    ·cases ho:e.r.H.get b with
     | none=>exact absurd ho h6
     | some ob=>exact key All (by rw [(h1.hp b ob ho).1]; simp)
    ·exact .inr ⟨by omega,h7⟩
   ·exact key D hb
theorem HD_same:∀ {es:List En} {D:Nat→Bool} {b:Nat},Tr P ρ n ops F0 H0 c0 es→b ∉ wlAt wl0 es→(b<c0∨cAt c0 es≤b)→HD D H0 es b=H0 b
 | [],D,b,h,hb,hr=>rfl
 | e :: r,D,b,h,hb,hr=>by
  cases h with
  | cons h1 h2 =>
   have h3:=cAt_mono h2
   have h4:=h1.cc
   have h5:=h1.c
   have hr:b<c0∨e.r.c'≤b:=hr
   unfold HD
   rw [if_neg]
   ·exact HD_same h2 (fun hm=>hb (List.mem_append_right _ hm)) (by omega)
   ·rintro ⟨_,h6 | ⟨h6,h7⟩⟩
    ·exact hb (List.mem_append_left _ h6)
    ·omega
theorem wl_live:∀ {es:List En} {b:Nat},Tr P ρ n ops F0 H0 c0 es→b∈wlAt wl0 es→b∈wl0∨H0 b≠none∨(c0≤b∧b<cAt c0 es)
 | [],b,h,hb => .inl hb
 | e :: r,b,h,hb=>by
  cases h with
  | cons h1 h2 =>
   have h3:=cAt_mono h2
   have h4:=h1.cc
   have h5:=h1.c
   rcases List.mem_append.1 hb with hb | hb
   ·rcases h1.wlive b hb with h6 | ⟨h6,h7⟩
    ·cases ho:e.r.H.get b with
     | none=>exact absurd ho h6
     | some ob =>
      rcases HD_live h2 (by rw [(h1.hp b ob ho).1]; simp:HD All H0 r b≠none) with h8 | ⟨h8,h9⟩
      ·exact .inr (.inl h8)
      ·exact .inr (.inr ⟨h8,by show b<e.r.c'; omega⟩)
    ·exact .inr (.inr ⟨by omega,h7⟩)
   ·rcases wl_live h2 hb with h6 | h6 | ⟨h6,h7⟩
    ·exact .inl h6
    ·exact .inr (.inl h6)
    ·exact .inr (.inr ⟨h6,by show b<e.r.c'; omega⟩)
def Cl (es:List En) (D:Nat→Bool):Prop:=∀ k e,atI es k=some e→D k=true→∀ i,bit e.r.pre i→D i=true
def Apart (H0:Nat→Option Ob) (c0 c1:Nat):Prop:=∀ b,H0 b≠none→¬ (c0≤b∧b<c1)
theorem hp_at {D:Nat→Bool} {j:Nat} {ej:En} {rj:List En} (hj:EnOK P ρ n ops F0 H0 c0 ej rj) (hl:rj.length=j) (hpre:∀ i,bit ej.r.pre i→D i=true) (hDj:D j=false) {b:Nat} {ob:Ob} (hb:ej.r.H.get b=some ob) :
  ∀ {q:List En},Tr P ρ n ops F0 H0 c0 (q ++ ej :: rj)→Apart H0 c0 (cAt c0 (q ++ ej :: rj))→Cl (q ++ ej :: rj) D→HD D H0 (q ++ ej :: rj) b=some ob
 | [],h,ha,hc=>by
  cases h with
  | cons h1 h2 =>
   show HD D H0 (ej :: rj) b=some ob
   unfold HD
   rw [if_neg (by rw [hl,hDj]; simp)]
   obtain ⟨h3,h4⟩:=hj.hp b ob hb
   have key:∀ {r:List En} {q:List En},rj=q ++ r→HD All H0 r b=some ob→HD D H0 r b=some ob:=by
    intro r
    induction r with
    | nil=>intro q _ h; exact h
    | cons e r ih =>
     intro q hq h
     have hat:atI rj r.length=some e:=by
      rw [hq,atI_app (by simp)]
      unfold atI
      rw [if_pos rfl]
     unfold HD at h ⊢
     by_cases ht:Tch e.r b
     ·have hbit:bit ej.r.pre r.length:=by
       by_cases hn:bit ej.r.pre r.length
       ·exact hn
       ·exact absurd ht (h4 _ _ hat hn)
      rw [if_pos ⟨rfl,ht⟩] at h
      rw [if_pos ⟨hpre _ hbit,ht⟩]
      exact h
     ·rw [if_neg (fun h=>ht h.2)] at h ⊢
      exact ih (q:=q ++ [e]) (by rw [hq]; simp) h
   exact key (q:=[]) rfl h3
 | e :: q,h,ha,hc=>by
  cases h with
  | cons h1 h2 =>
   have h1:EnOK P ρ n ops F0 H0 c0 e (q ++ ej :: rj):=h1
   have h2:Tr P ρ n ops F0 H0 c0 (q ++ ej :: rj):=h2
   have hle:cAt c0 (q ++ ej :: rj)≤e.r.c':=by have:=h1.c; have:=h1.cc; omega
   have ih:=hp_at hj hl hpre hDj hb (q:=q) h2 (fun x hx hr=>ha x hx ⟨hr.1,by show x<e.r.c'; omega⟩) (fun k ek hk hD=>hc k ek (atI_cons hk) hD)
   show HD D H0 (e :: (q ++ ej :: rj)) b=some ob
   unfold HD
   rw [if_neg]
   ·exact ih
   ·rintro ⟨hD,ht⟩
    have hj':atI (q ++ ej :: rj) j=some ej:=by rw [atI_app (by simp; omega)]; unfold atI; rw [if_pos hl.symm]
    have hnb:¬ bit e.r.pre j:=fun hb'=>by
     have hself:atI (e :: (q ++ ej :: rj)) (q ++ ej :: rj).length=some e:=by unfold atI; rw [if_pos rfl]
     have:=hc _ e hself hD j hb'
     rw [hDj] at this
     cases this
    have hH0:HD All H0 rj b≠none:=by rw [(hj.hp b ob hb).1]; simp
    rcases ht with ht | ⟨ht,ht'⟩
    ·rw [h1.cl j ej hj' hnb b ht] at hb
     cases hb
    ·have htr:Tr P ρ n ops F0 H0 c0 rj:=by
      obtain ⟨r,k1,k2,k3,q2,k4⟩:=h2.at_ hj'
      have:rj=r:=by
       have:=List.append_inj_right' k4 (by simp [hl,k2])
       simpa using this
      rw [this]; exact k3
     have h5:=h1.c
     rcases HD_live htr hH0 with h6 | ⟨h6,h7⟩
     ·refine ha b h6 ⟨?_,ht'⟩
      have:=cAt_mono h2
      omega
     ·have h8:cAt c0 rj≤cAt c0 (q ++ ej :: rj):=by
       have e1:=hj.c
       have e2:=(at_c h2 hj')
       omega
      omega
end
end Go.Run
namespace Go.Run
open Go.Eng
set_option linter.unusedVariables false
set_option linter.unusedSimpArgs false
section
variable {P:Program} {E:Env} {F:Fm} {FL:FL} {n:Nat} {a:Act} {w0:World} {H:PT Ob} {c:Nat} {w w':World} {o:Oper}
theorem gv_ok {ops:Array Oper} {b:Bool} (hF:FRel E F FL) (hfr:Fr ⟨n,[]⟩ a FL) (h:gv ops.toList F o.guard=some b):Region.wanted o (yielded ops a.tmps)=b:=by
 refine gd_wanted hfr ?_
 unfold gv at h
 unfold gd
 split at h
 ·rename_i hg; first | (rw [hg]; exact h) | exact h
 ·rename_i j want hg
  try rw [hg]
  try dsimp only
  split at h <;> first | (cases h; done) | skip
  rename_i oj hj
  rw [nth_eq,Array.getElem?_toList] at hj
  split at h <;> first | (cases h; done) | skip
  rename_i t ht
  rw [hj,Option.bind_some,ht]
  dsimp only
  split at h <;> first | (cases h; done) | skip
  ·rename_i x hx
   obtain ⟨u,h1,h2⟩:=hF t _ hx
   rw [h1,show u = .bool x from h2]
   rw [← h]
   cases x <;> cases want <;> rfl
  ·rename_i hx
   obtain ⟨u,h1,h2⟩:=hF t _ hx
   rw [h1,show u=undef from h2]
   exact h
theorem lk_enumV:∀ (xs:List V) (k:Nat) (F:Fm) (j:Nat) (v:V),lk (enumV k xs F) j=some v→(k≤j∧xs[j - k]?=some v)∨lk F j=some v
 | [],k,F,j,v,h => .inr h
 | x :: r,k,F,j,v,h=>by
  rcases lk_enumV r (k+1) (F.put k (some x)) j v h with ⟨h1,h2⟩ | h1
  ·refine .inl ⟨by omega,?_⟩
   rw [show j - k=(j - (k+1))+1 by omega,List.getElem?_cons_succ]
   exact h2
  ·unfold lk at h1
   by_cases hj:j=k
   ·subst hj
    rw [Fm.put_same] at h1
    exact .inl ⟨Nat.le_refl _,by simpa using h1⟩
   ·rw [Fm.put_other _ _ hj] at h1
    exact .inr h1
theorem look_enum:∀ (us:List Value) (k j:Nat) (u:Value),k≤j→us[j - k]?=some u→Eng.look (Eng.enumF k us) j=some u
 | [],k,j,u,h,hu=>by simp at hu
 | x :: r,k,j,u,h,hu=>by
  rw [Eng.enumF,look_cons]
  by_cases hj:k=j
  ·subst hj
   rw [if_pos rfl]
   simpa using hu
  ·rw [if_neg hj]
   refine look_enum r (k+1) j u (by omega) ?_
   rwa [show j - k=(j - (k+1))+1 by omega,List.getElem?_cons_succ] at hu
theorem frame0 {xs:List V} {us:List Value} (nv:Nat) (h:VRs E xs us):FRel E (enumV 0 xs ⟨nv,.e,[]⟩) (Eng.enumF 0 us):=fun j v hv=>by
 rcases lk_enumV xs 0 ⟨nv,.e,[]⟩ j v hv with ⟨_,h2⟩ | h2
 ·obtain ⟨u,h3,h4⟩:=h.at_ h2
  exact ⟨u,look_enum us 0 j u (Nat.zero_le _) h3,h4⟩
 ·unfold lk at h2
  rw [Fm.get_nil] at h2
  cases h2
theorem fr0 {us:List Value} {m:Nat} (h:us.length≤m):Fr ⟨m,[]⟩ { tmps:=us.toArray ++ Array.replicate (m - us.toArray.size) undef,defers:=[] } (Eng.enumF 0 us):=by
 refine ⟨by simp; omega,rfl,fun j v hv=>?_⟩
 obtain ⟨_,h2⟩:=look_enumF 0 us j v hv
 rw [Nat.sub_zero] at h2
 have hlt:j<us.toArray.size:=by simpa using (List.getElem?_eq_some_iff.1 h2).1
 show (us.toArray ++ Array.replicate (m - us.toArray.size) undef).getD j undef=v
 rw [Array.getD_eq_getD_getElem?,Array.getElem?_append_left hlt,List.getElem?_toArray,h2]
 rfl
theorem packR_ok {vs:List V} {us:List Value} (h:VRs E vs us):VR E (packR vs) (packV us):=by
 unfold packR packV
 split
 ·obtain ⟨u,r,h1,h2,rfl⟩:=h
  rw [show r=[] from h2]
  exact h1
 ·rename_i hne
  split
  ·rename_i u
   have:=h.len
   simp at this
   exact absurd (List.length_eq_one_iff.1 this.symm) (by rintro ⟨v,rfl⟩; exact hne v rfl)
  ·exact ⟨us,h,rfl⟩
noncomputable def rvF (a:Act):ResultVar→Sem Value
 | .tmp t=>pure (a.tmps.getD t undef)
 | .cell x t=>do loadVar t (← asAddr (a.tmps.getD x undef))
theorem results_ok {fn:Func} {vs:List V} (hF:FRel E F FL) (hfr:Fr ⟨n,[]⟩ a FL) (hw:Wr w0 E H.get w) (h:rvs P F H fn.results.toList=some vs):∃ u,(results fn a.tmps).run P w = .ok u w∧VR E (packR vs) u:=by
 have key:∀ {rs:List ResultVar} {vs:List V},rvs P F H rs=some vs→∃ us,(rs.mapM (rvF a)).run P w = .ok us w∧VRs E vs us:=by
  intro rs
  induction rs with
  | nil=>intro vs h; injection h with h; subst h; exact ⟨[],by simp,rfl⟩
  | cons r rs ih =>
   intro vs h
   cases r with
   | tmp t =>
    unfold rvs at h
    split at h <;> first | (cases h; done) | skip
    rename_i v hv
    split at h <;> first | (cases h; done) | skip
    rename_i vs' hvs
    cases h
    obtain ⟨us,h1,h2⟩:=ih hvs
    obtain ⟨u,h3,h4⟩:=hF t v hv
    exact ⟨u :: us,by simp only [List.mapM_cons,Sem.run_bind,Sem.run_pure,Result.andThen_ok,rvF,hfr.at_ _ _ h3,h1],u,us,h4,h2,rfl⟩
   | cell x t =>
    unfold rvs at h
    split at h <;> first | (cases h; done) | skip
    rename_i m ag b off k1 k2 k3
    split at h <;> first | (cases h; done) | skip
    rename_i cs k4
    split at h <;> first | (cases h; done) | skip
    rename_i v vs' k5 k6
    cases h
    obtain ⟨us,h1,h2⟩:=ih k6
    obtain ⟨_,h3,g,hg,rfl⟩:=hF x _ k3
    obtain ⟨d,hd,hn⟩:=agv_ok k2
    unfold ldc at k4
    split at k4 <;> first | (cases k4; done) | skip
    rename_i ob hb
    obtain ⟨us',cur,q1,q2,q3⟩:=live_ hw hb hg
    obtain ⟨p1,p2,p3⟩:=prt_ok k4 q1
    rw [← q1.len] at p1
    have hcell:∀ j v,((us'.drop off).take m)[j]?=some v→w.cell? ⟨g,off+j,none⟩=some v:=fun j v hv=>by
     rw [List.getElem?_take] at hv
     split at hv
     ·rw [List.getElem?_drop] at hv
      have:=take_at q3 hv
      simp [World.cell?,q2,this]
     ·cases hv
    have hl:((us'.drop off).take m).length=m:=by rw [List.length_take,List.length_drop]; omega
    have hld:=run_cells (P:=P) hcell
    rw [hl] at hld
    have hm:=szv_ok k1
    unfold pack at k5
    cases ag with
    | true =>
     injection k5 with k5
     subst k5
     refine ⟨.agg ((us'.drop off).take m).toArray :: us,?_,_,us,⟨_,p3,rfl⟩,h2,rfl⟩
     have hs:(rvF a (.cell x t)).run P w = .ok (.agg ((us'.drop off).take m).toArray) w:=by
      simp only [rvF,Sem.run_bind,Sem.run_pure,Result.andThen_ok,hfr.at_ _ _ h3,asAddr,loadVar,run_isAgg1 hd hn,if_true,run_size hm,hld]
     simp only [List.mapM_cons,Sem.run_bind,Sem.run_pure,Result.andThen_ok,hs,h1]
    | false =>
     dsimp only at k5
     split at k5 <;> first | (cases k5; done) | skip
     rename_i v'
     injection k5 with k5
     subst k5
     obtain ⟨u,r,r1,r2,r3⟩:=p3
     have h0:w.cell? ⟨g,off,none⟩=some u:=hcell 0 u (by rw [r3]; rfl)
     refine ⟨u :: us,?_,u,us,r1,h2,rfl⟩
     have hs:(rvF a (.cell x t)).run P w = .ok u w:=by
      simp only [rvF,Sem.run_bind,Sem.run_pure,Result.andThen_ok,hfr.at_ _ _ h3,asAddr,loadVar,run_isAgg0 hd hn,if_false,Bool.false_eq_true,Eng.run_load (P:=P) h0]
     simp only [List.mapM_cons,Sem.run_bind,Sem.run_pure,Result.andThen_ok,hs,h1]
 obtain ⟨us,h1,h2⟩:=key h
 refine ⟨packV us,?_,packR_ok h2⟩
 have hm:(fn.results.mapM (rvF a)).run P w = .ok us.toArray w:=by
  have:fn.results=fn.results.toList.toArray:=by simp
  rw [this]
  simp only [List.mapM_toArray,Sem.run_map,h1,Result.andThen_ok]
 have hf:(fun r:ResultVar=>(match r with | .tmp t=>pure (a.tmps.getD t undef) | .cell x t=>do loadVar t (← asAddr (a.tmps.getD x undef)):Sem Value))=rvF a:=by
  funext r
  cases r <;> rfl
 unfold results
 rw [Sem.run_bind]
 refine (congrArg (fun r=>Result.andThen r _) hm).trans ?_
 simp only [Result.andThen_ok]
 match us with
 | []=>simp [packV]
 | [v]=>simp [packV]
 | u :: v :: r=>simp [packV]
end
end Go.Run
namespace Go.Run
open Go.Eng
set_option linter.unusedVariables false
set_option linter.unusedSimpArgs false
noncomputable def add (D:Nat→Bool) (j:Nat):Nat→Bool:=fun i=>if i=j then true else D i
section
variable {P:Program} {ρ:Rho} {n:Nat} {ops:Array Oper} {F0:Nat→Option V} {H0:Nat→Option Ob} {c0:Nat} {wl0:List Nat}
theorem HD_congr {D D':Nat→Bool}:∀ {es:List En} {b:Nat},(∀ i,i<es.length→D i=D' i)→HD D H0 es b=HD D' H0 es b
 | [],b,h=>rfl
 | e :: r,b,h=>by
  unfold HD
  rw [h r.length (by simp),HD_congr (es:=r) (fun i hi=>h i (by simp; omega))]
theorem FD_congr {D D':Nat→Bool}:∀ {es:List En} {t:Nat},(∀ i,i<es.length→D i=D' i)→FD D F0 es t=FD D' F0 es t
 | [],b,h=>rfl
 | e :: r,b,h=>by
  unfold FD
  rw [h r.length (by simp),FD_congr (es:=r) (fun i hi=>h i (by simp; omega))]
theorem atI_mid {q r:List En} {e:En}:atI (q ++ e :: r) r.length=some e:=by
 rw [atI_app (by simp)]
 unfold atI
 rw [if_pos rfl]
theorem atI_self {e:En} {r:List En}:atI (e :: r) r.length=some e:=by
 unfold atI
 rw [if_pos rfl]
theorem HD_add {D:Nat→Bool} {e:En} {r:List En} (hD:D r.length=false) {b:Nat}:∀ {q:List En},Tr P ρ n ops F0 H0 c0 (q ++ e :: r)→Apart H0 c0 (cAt c0 (q ++ e :: r))→Cl (q ++ e :: r) D →
  HD (add D r.length) H0 (q ++ e :: r) b=if Tch e.r b then e.K.get b else HD D H0 (q ++ e :: r) b
 | [],h,ha,hc=>by
  show HD _ H0 (e :: r) b=if Tch e.r b then e.K.get b else HD D H0 (e :: r) b
  have h1:HD D H0 (e :: r) b=HD D H0 r b:=by
   show (if D r.length=true∧Tch e.r b then e.K.get b else HD D H0 r b)=_
   rw [if_neg (by rw [hD]; simp)]
  have h2:HD (add D r.length) H0 (e :: r) b=if Tch e.r b then e.K.get b else HD (add D r.length) H0 r b:=by
   show (if add D r.length r.length=true∧Tch e.r b then e.K.get b else HD _ H0 r b)=_
   have:add D r.length r.length=true:=if_pos rfl
   rw [this]
   simp
  rw [h1,h2,HD_congr (D:=add D r.length) (D':=D) (fun i hi=>if_neg (by omega))]
 | ek :: q,h,ha,hc=>by
  cases h with
  | cons h1 h2 =>
   have h1:EnOK P ρ n ops F0 H0 c0 ek (q ++ e :: r):=h1
   have h2:Tr P ρ n ops F0 H0 c0 (q ++ e :: r):=h2
   have hle:cAt c0 (q ++ e :: r)≤ek.r.c':=by have:=h1.c; have:=h1.cc; omega
   have ih:=HD_add hD (b:=b) (q:=q) h2 (fun x hx hr=>ha x hx ⟨hr.1,by show x<ek.r.c'; omega⟩) (fun k ek hk hD=>hc k ek (atI_cons hk) hD)
   have hk:add D r.length (q ++ e :: r).length=D (q ++ e :: r).length:=if_neg (by simp; omega)
   show (if add D r.length (q ++ e :: r).length=true∧Tch ek.r b then ek.K.get b else HD _ H0 (q ++ e :: r) b)=if Tch e.r b then e.K.get b else (if D (q ++ e :: r).length=true∧Tch ek.r b then ek.K.get b else HD D H0 (q ++ e :: r) b)
   rw [hk]
   by_cases hc1:D (q ++ e :: r).length=true∧Tch ek.r b
   ·rw [if_pos hc1,if_pos hc1,if_neg]
    intro ht
    have hat:atI (q ++ e :: r) r.length=some e:=atI_mid
    have hnb:¬ bit ek.r.pre r.length:=fun hb'=>by
     have:=hc _ ek atI_self hc1.1 r.length hb'
     rw [hD] at this
     cases this
    obtain ⟨r2,k1,k2,k3,q2,k4⟩:=h2.at_ hat
    have hr2:r=r2:=by simpa using List.append_inj_right' k4 (by simp [k2])
    subst hr2
    have e1:=k1.c
    have e2:=(at_c h2 hat).2.2
    have e3:=h1.c
    have notnew:¬ (ek.r.c≤b∧b<ek.r.c'):=fun ⟨n1,n2⟩=>by
     rcases ht with ht | ⟨_,ht⟩
     ·rcases k1.wlive b ht with h6 | ⟨_,h7⟩
      ·cases ho:e.r.H.get b with
       | none=>exact absurd ho h6
       | some ob =>
        rcases HD_live k3 (by rw [(k1.hp b ob ho).1]; simp:HD All H0 r b≠none) with h8 | ⟨_,h9⟩
        ·refine ha b h8 ⟨?_,n2⟩
         have:=cAt_mono h2
         omega
        ·have:=k1.cc; omega
      ·omega
     ·omega
    rcases hc1.2 with h5 | h5
    ·rcases h1.wlive b h5 with h6 | h6
     ·cases ho:ek.r.H.get b with
      | none=>exact absurd ho h6
      | some ob=>exact (h1.hp b ob ho).2 _ e hat hnb ht
     ·exact notnew h6
    ·exact notnew h5
   ·rw [if_neg hc1,if_neg hc1]
    exact ih
theorem FD_add {D:Nat→Bool} {e:En} {r:List En} (hD:D r.length=false) {t:Nat} {v:V}:∀ {q:List En},Tr P ρ n ops F0 H0 c0 (q ++ e :: r)→FD (add D r.length) F0 (q ++ e :: r) t=some v →
  (e.r.dst=some t∧v=e.v)∨(e.r.dst≠some t∧FD D F0 (q ++ e :: r) t=some v)
 | [],h,hv=>by
  have hv:(if add D r.length r.length=true∧e.r.dst=some t then some e.v else FD (add D r.length) F0 r t)=some v:=hv
  have h0:add D r.length r.length=true:=if_pos rfl
  have h1:FD D F0 (e :: r) t=FD D F0 r t:=by
   show (if D r.length=true∧e.r.dst=some t then some e.v else FD D F0 r t)=_
   rw [if_neg (by rw [hD]; simp)]
  by_cases hd:e.r.dst=some t
  ·rw [if_pos ⟨h0,hd⟩] at hv
   injection hv with hv
   exact .inl ⟨hd,hv.symm⟩
  ·rw [if_neg (fun h=>hd h.2),FD_congr (D:=add D r.length) (D':=D) (fun i hi=>if_neg (by omega))] at hv
   exact .inr ⟨hd,by show FD D F0 (e :: r) t=_; rw [h1]; exact hv⟩
 | ek :: q,h,hv=>by
  cases h with
  | cons h1 h2 =>
   have h1:EnOK P ρ n ops F0 H0 c0 ek (q ++ e :: r):=h1
   have h2:Tr P ρ n ops F0 H0 c0 (q ++ e :: r):=h2
   have hk:add D r.length (q ++ e :: r).length=D (q ++ e :: r).length:=if_neg (by simp; omega)
   have hv:(if add D r.length (q ++ e :: r).length=true∧ek.r.dst=some t then some ek.v else FD (add D r.length) F0 (q ++ e :: r) t)=some v:=hv
   rw [hk] at hv
   show _∨(_∧(if D (q ++ e :: r).length=true∧ek.r.dst=some t then some ek.v else FD D F0 (q ++ e :: r) t)=some v)
   by_cases hc1:D (q ++ e :: r).length=true∧ek.r.dst=some t
   ·rw [if_pos hc1] at hv ⊢
    exact .inr ⟨h1.nd _ e atI_mid t hc1.2,hv⟩
   ·rw [if_neg hc1] at hv ⊢
    exact FD_add hD h2 hv
theorem FD_of {D:Nat→Bool} {t:Nat} {v:V}:∀ {es:List En},FD D F0 es t=some v→F0 t=some v∨∃ i e,atI es i=some e∧e.r.dst=some t
 | [],h => .inl h
 | e :: r,h=>by
  unfold FD at h
  split at h
  ·rename_i hc; exact .inr ⟨_,e,atI_self,hc.2⟩
  ·rcases FD_of h with h1 | ⟨i,e',h1,h2⟩
   ·exact .inl h1
   ·exact .inr ⟨i,e',atI_cons h1,h2⟩
theorem fr_at {D:Nat→Bool} {ej:En} {rj:List En} (hF0:∀ (i:Nat) (o:Oper) (t:Nat),ops[i]?=some o→o.dst=some t→F0 t=none) (hj:EnOK P ρ n ops F0 H0 c0 ej rj) (hpre:∀ i,bit ej.r.pre i→D i=true) (hDj:D rj.length=false) {t:Nat} {v:V} (hv:ej.F.get t=some v) :
  ∀ {q:List En},Tr P ρ n ops F0 H0 c0 (q ++ ej :: rj)→FD D F0 (q ++ ej :: rj) t=some v
 | [],h=>by
  show (if D rj.length=true∧ej.r.dst=some t then some ej.v else FD D F0 rj t)=some v
  rw [if_neg (by rw [hDj]; simp)]
  obtain ⟨h3,h4⟩:=hj.fr t v hv
  have key:∀ {r:List En} {q:List En},rj=q ++ r→FD All F0 r t=some v→FD D F0 r t=some v:=by
   intro r
   induction r with
   | nil=>intro q _ h; exact h
   | cons e r ih =>
    intro q hq h
    have hat:atI rj r.length=some e:=by rw [hq]; exact atI_mid
    unfold FD at h ⊢
    by_cases ht:e.r.dst=some t
    ·have hbit:bit ej.r.pre r.length:=by
      by_cases hn:bit ej.r.pre r.length
      ·exact hn
      ·exact absurd ht (h4 _ _ hat hn)
     rw [if_pos ⟨rfl,ht⟩] at h
     rw [if_pos ⟨hpre _ hbit,ht⟩]
     exact h
    ·rw [if_neg (fun h=>ht h.2)] at h ⊢
     exact ih (q:=q ++ [e]) (by rw [hq]; simp) h
  exact key (q:=[]) rfl h3
 | e :: q,h=>by
  cases h with
  | cons h1 h2 =>
   have h1:EnOK P ρ n ops F0 H0 c0 e (q ++ ej :: rj):=h1
   have h2:Tr P ρ n ops F0 H0 c0 (q ++ ej :: rj):=h2
   have ih:=fr_at hF0 hj hpre hDj hv (q:=q) h2
   show (if D (q ++ ej :: rj).length=true∧e.r.dst=some t then some e.v else FD D F0 (q ++ ej :: rj) t)=some v
   rw [if_neg]
   ·exact ih
   ·rintro ⟨_,hd⟩
    rcases FD_of ih with h3 | ⟨i,e',h3,h4⟩
    ·rw [hF0 _ _ _ h1.at_ (by rw [← h1.dst]; exact hd)] at h3
     cases h3
    ·exact h1.nd i e' h3 t hd h4
structure Rel (ρ:Rho) (n:Nat) (F0:Nat→Option V) (H0:Nat→Option Ob) (c0:Nat) (wl0:List Nat) (w0 ws:World) (E0:Env) (es:List En) (D:Nat→Bool) (E:Env) (a:Act) (w:World):Prop where
 ρ:E.ρ=ρ
 fa:∃ FL,Fr ⟨n,[]⟩ a FL∧∀ t v,FD D F0 es t=some v→∃ u,Eng.look FL t=some u∧VR E v u
 nx:Nx w0 E0 H0 c0 ws E (HD D H0 es) (cAt c0 es) (wlAt wl0 es) w
 fr:∀ i e,atI es i=some e→D i=false→Fresh E e.r.c e.r.c'
theorem Wr.sub {w0:World} {E:Env} {H H':Nat→Option Ob} {w:World} (h:Wr w0 E H w) (hs:∀ b o,H' b=some o→H b=some o):Wr w0 E H' w :=
 have hn:∀ b,H' b≠none→H b≠none:=fun b hb=>by
  cases e:H' b with
  | none=>exact absurd e hb
  | some o=>rw [hs b o e]; simp
 ⟨h.agree,fun b o hb=>h.lr b o (hs b o hb),h.own,fun b b' g h1 h2=>h.inj b b' g (hn b h1) (hn b' h2)⟩
theorem Rel.step {w0 ws:World} {E0:Env} {es:List En} {D:Nat→Bool} {E:Env} {a:Act} {w:World} {j:Nat} {e:En} {K:Act→World→Prop} {Q:Exit→Act→World→Prop}
  (hr:Rel ρ n F0 H0 c0 wl0 w0 ws E0 es D E a w) (ht:Tr P ρ n ops F0 H0 c0 es) (hap:Apart H0 c0 (cAt c0 es)) (hf0:Fresh E0 c0 (cAt c0 es)) (hF0:∀ (i:Nat) (o:Oper) (t:Nat),ops[i]?=some o→o.dst=some t→F0 t=none) (hc:Cl es D) (hj:atI es j=some e) (hD:D j=false) (hpre:∀ i,bit e.r.pre i→D i=true)
  (k:∀ E' a' w',Rel ρ n F0 H0 c0 wl0 w0 ws E0 es (add D j) E' a' w'→K a' w'):wpOp P ops Q j K a w:=by
 obtain ⟨r,k1,rfl,k3,q,rfl⟩:=ht.at_ hj
 obtain ⟨FL,hfr,hfd⟩:=hr.fa
 have hF:FRel E e.F FL:=fun t v hv=>hfd t v (fr_at hF0 k1 hpre hD hv ht)
 have hH:∀ b o,e.r.H.get b=some o→HD D H0 (q ++ e :: r) b=some o:=fun b o hb=>hp_at k1 rfl hpre hD hb ht hap hc
 have hHn:∀ b,e.r.H.get b≠none→HD D H0 (q ++ e :: r) b≠none:=fun b hb=>by
  cases e1:e.r.H.get b with
  | none=>exact absurd e1 hb
  | some o=>rw [hH b o e1]; simp
 have hwr:=hr.nx.wr
 have hcc:=at_c ht hj
 have hfj:=hr.fr _ e hj hD
 have hadd:=fun b=>HD_add (b:=b) hD ht hap hc
 have want:=gv_ok hF hfr k1.guard
 -- the frame behind it
 have fa':∀ {E':Env} {u:Value},Ext E E'→VR E' e.v u→∃ FL,Fr ⟨n,[]⟩ (a.put e.o.dst u) FL∧∀ t v,FD (add D r.length) F0 (q ++ e :: r) t=some v→∃ u,Eng.look FL t=some u∧VR E' v u:=by
  intro E' u hx hu
  have hdok:=k1.dOk
  have hdst:=k1.dst
  cases hd:e.o.dst with
  | none =>
   refine ⟨FL,hfr.putNone u,fun t v hv=>?_⟩
   rcases FD_add hD ht hv with ⟨h1,_⟩ | ⟨_,h1⟩
   ·rw [hdst,hd] at h1; cases h1
   ·obtain ⟨u',h2,h3⟩:=hfd t v h1
    exact ⟨u',h2,VR.mono hx _ _ h3⟩
  | some d =>
   rw [hd] at hdok hdst
   refine ⟨_,hfr.put (blt_lt hdok) u,fun t v hv=>?_⟩
   rw [look_cons]
   rcases FD_add hD ht hv with ⟨h1,h2⟩ | ⟨h1,h2⟩
   ·rw [hdst] at h1
    injection h1 with h1
    rw [if_pos h1,h2]
    exact ⟨u,rfl,hu⟩
   ·rw [hdst] at h1
    rw [if_neg (fun h=>h1 (congrArg some h))]
    obtain ⟨u',h3,h4⟩:=hfd t v h2
    exact ⟨u',h3,VR.mono hx _ _ h4⟩
 unfold wpOp
 simp only [k1.at_]
 cases hon:e.on with
 | false =>
  obtain ⟨h1,h2,h3⟩:=k1.off hon
  rw [if_neg (by rw [want,hon]; decide)]
  have hnt:∀ b,¬ Tch e.r b:=fun b hb=>by
   rcases hb with hb | hb
   ·rw [h2] at hb; cases hb
   ·omega
  have heq:HD (add D r.length) H0 (q ++ e :: r)=HD D H0 (q ++ e :: r):=funext fun b=>by rw [hadd,if_neg (hnt b)]
  refine k E _ w ⟨hr.ρ,fa' (Ext.refl E) (by rw [h1]; rfl),by rw [heq]; exact hr.nx,fun i e' hi hd=>hr.fr i e' hi ?_⟩
  have:(if i=r.length then true else D i)=false:=hd
  split at this
  ·cases this
  ·exact this
 | true =>
  rw [if_pos (by rw [want,hon])]
  refine .inl (k1.sem hon w0 E a w K Q hr.ρ ⟨FL,hfr,hF⟩ (hwr.sub hH) hfj (fun E' u w' hn hu=>k E' _ w' ?_))
  have inj':∀ b b' g,HD D H0 (q ++ e :: r) b≠none→HD D H0 (q ++ e :: r) b'≠none→E.ν b=some g→E.ν b'=some g→b=b':=hwr.inj
  -- what was there and was not touched
  have old:∀ b,¬ Tch e.r b→HD D H0 (q ++ e :: r) b≠none→∃ g obj o,HD D H0 (q ++ e :: r) b=some o∧E.ν b=some g∧w.heap[g]?=some obj∧w'.heap[g]?=some obj∧OR E o obj∧g<w.heap.size∧∀ b0∈e.r.wl,e.r.H.get b0≠none→E.ν b0≠some g:=by
   intro b hb hl
   cases ho:HD D H0 (q ++ e :: r) b with
   | none=>exact absurd ho hl
   | some o =>
    obtain ⟨g,obj,h1,h2,h3⟩:=hwr.lr b o ho
    have hlt:=(Array.getElem?_eq_some_iff.1 h2).1
    have hne:∀ b0∈e.r.wl,e.r.H.get b0≠none→E.ν b0≠some g:=fun b0 hb0 hl0 e1=>hb (.inl (by rw [← inj' b0 b g (hHn b0 hl0) hl e1 h1]; exact hb0))
    exact ⟨g,obj,o,rfl,h1,h2,(hn.keep g hlt hne).trans h2,h3,hlt,hne⟩
  have base:∀ b g,HD D H0 (q ++ e :: r) b≠none→E0.ν b=some g→H0 b≠none:=fun b g hl hg=>by
   rcases HD_live ht hl with h1 | ⟨h1,h2⟩
   ·exact h1
   ·rw [(hf0 b h1 h2).1] at hg; cases hg
  have hwr':Wr w0 E' (HD (add D r.length) H0 (q ++ e :: r)) w':=by
   refine ⟨hn.wr.agree,fun b o hb=>?_,hn.wr.own,fun b b' g hb hb' h1 h2=>?_⟩
   ·rw [hadd] at hb
    split at hb
    ·exact hn.wr.lr b o hb
    ·rename_i hnt
     obtain ⟨g,obj,o',h1,h2,h3,h4,h5,_⟩:=old b hnt (by rw [hb]; simp)
     rw [h1] at hb
     injection hb with hb
     subst hb
     exact ⟨g,obj,hn.ext.ν _ _ h2,h4,h5.mono hn.ext⟩
   ·rw [hadd] at hb hb'
    have mixed:∀ x y,Tch e.r x→e.K.get x≠none→¬ Tch e.r y→HD D H0 (q ++ e :: r) y≠none→E'.ν x=some g→E'.ν y=some g→False:=by
     intro x y hx hxl hy hyl e1 e2
     obtain ⟨g',obj,o',h1,h2,h3,h4,h5,h6,h7⟩:=old y hy hyl
     have:g=g':=by
      have:=hn.ext.ν _ _ h2
      rw [e2] at this
      injection this
     subst this
     rcases hn.nu x g e1 with h8 | ⟨h8,h9,h10⟩
     ·rcases hn.live x hxl with h11 | ⟨h11,h12⟩
      ·exact hy (by rw [← inj' x y g (hHn x h11) hyl h8 h2]; exact hx)
      ·rw [(hfj x h11 h12).1] at h8; cases h8
     ·rcases h10 with h10 | ⟨b0,h10,h11,h12⟩
      ·omega
      ·exact h7 b0 h10 h11 h12
    by_cases t1:Tch e.r b <;> by_cases t2:Tch e.r b'
    ·rw [if_pos t1] at hb; rw [if_pos t2] at hb'
     exact hn.wr.inj b b' g hb hb' h1 h2
    ·rw [if_pos t1] at hb; rw [if_neg t2] at hb'
     exact (mixed b b' t1 hb t2 hb' h1 h2).elim
    ·rw [if_neg t1] at hb; rw [if_pos t2] at hb'
     exact (mixed b' b t2 hb' t1 hb h2 h1).elim
    ·rw [if_neg t1] at hb; rw [if_neg t2] at hb'
     obtain ⟨g1,_,_,_,p1,_⟩:=old b t1 hb
     obtain ⟨g2,_,_,_,p2,_⟩:=old b' t2 hb'
     have e1:=hn.ext.ν _ _ p1
     have e2:=hn.ext.ν _ _ p2
     rw [h1] at e1
     rw [h2] at e2
     injection e1 with e1
     injection e2 with e2
     subst e1
     subst e2
     exact inj' b b' _ hb hb' p1 p2
  refine ⟨by rw [hn.ext.ρ]; exact hr.ρ,fa' hn.ext hu,⟨hr.nx.ext.trans hn.ext,hwr',Nat.le_trans hr.nx.size hn.size,fun b g hb=>?_,fun i x hi=>?_,fun g hg hne=>?_,fun b hb hrg=>HD_same ht hb hrg,fun b hb=>HD_live ht hb⟩,fun i e' hi hd=>?_⟩
  ·rcases hn.nu b g hb with h1 | ⟨h1,h2,h3⟩
   ·exact hr.nx.nu b g h1
   ·refine .inr ⟨by omega,by omega,?_⟩
    rcases h3 with h3 | ⟨b0,h3,h4,h5⟩
    ·exact .inl (Nat.le_trans hr.nx.size h3)
    ·rcases hr.nx.nu b0 g h5 with h6 | ⟨_,_,h6⟩
     ·exact .inr ⟨b0,at_wl hj h3,base b0 g (hHn b0 h4) h6,h6⟩
     ·exact h6
  ·rcases hn.kap i x hi with h1 | ⟨h1,h2⟩
   ·exact hr.nx.kap i x h1
   ·exact .inr ⟨by omega,by omega⟩
  ·have h1:=hr.nx.keep g hg hne
   refine (hn.keep g (Nat.lt_of_lt_of_le hg hr.nx.size) (fun b0 hb0 hl0 e1=>?_)).trans h1
   rcases hr.nx.nu b0 g e1 with h6 | ⟨_,_,h6⟩
   ·exact hne b0 (at_wl hj hb0) (base b0 g (hHn b0 hl0) h6) h6
   ·rcases h6 with h6 | ⟨b1,h6,h7,h8⟩
    ·omega
    ·exact hne b1 h6 h7 h8
  ·have hd:(if i=r.length then true else D i)=false:=hd
   split at hd
   ·cases hd
   ·rename_i hne
    have h0:=hr.fr i e' hi hd
    have hap2:e'.r.c'≤e.r.c∨e.r.c'≤e'.r.c:=by
     rcases Nat.lt_or_gt_of_ne hne with h | h
     ·exact .inl (at_apart ht hi hj h)
     ·exact .inr (at_apart ht hj hi h)
    intro b hb hb'
    obtain ⟨f1,f2⟩:=h0 b hb hb'
    refine ⟨?_,?_⟩
    ·cases h:E'.ν b with
     | none=>rfl
     | some g =>
      rcases hn.nu b g h with h1 | ⟨h1,h2,_⟩
      ·rw [f1] at h1; cases h1
      ·omega
    ·cases h:E'.κ b with
     | none=>rfl
     | some g =>
      rcases hn.kap b g h with h1 | ⟨h1,h2⟩
      ·rw [f2] at h1; cases h1
      ·omega
end
end Go.Run
namespace Go.Run
open Go.Eng
set_option linter.unusedVariables false
set_option linter.unusedSimpArgs false
theorem isD_eq (x:Rec) (r:List Rec) (t:Nat):isD (x :: r) t=match x.dst with
  | some d=>(match Nat.beq d t with | true=>true | false=>isD r t)
  | none=>isD r t:=by
 show Option.rec (motive:=fun _=>Bool) (isD r t) (fun d=>Bool.rec (motive:=fun _=>Bool) (isD r t) true (Nat.beq d t)) x.dst=_
 cases x.dst with
 | none=>rfl
 | some d=>show Bool.rec (motive:=fun _=>Bool) (isD r t) true (Nat.beq d t)=_; dsimp only; cases Nat.beq d t <;> rfl
theorem outs_eq (x:Rec) (r:List Rec) (j a:Nat):outs (x :: r) (Nat.succ j) a=match Nat.beq (Nat.land (Nat.shiftRight a j) 1) 1 with
  | true=>outs r j a
  | false=>x :: outs r j a:=by
 show Bool.rec (motive:=fun _=>List Rec) (x :: outs r j a) (outs r j a) (Nat.beq (Nat.land (Nat.shiftRight a j) 1) 1)=_
 cases Nat.beq (Nat.land (Nat.shiftRight a j) 1) 1 <;> rfl
theorem bit_iff {a i:Nat}:bit a i↔a.testBit i=true:=by
 unfold bit Nat.testBit
 show (a >>> i) &&& 1=1↔_
 rw [Nat.and_comm (a >>> i) 1,Nat.one_and_eq_mod_two,bne_iff_ne]
 omega
theorem bit_lor {a b i:Nat}:bit (Nat.lor a b) i↔bit a i∨bit b i:=by
 rw [bit_iff,bit_iff,bit_iff]
 show (a ||| b).testBit i=true↔_
 rw [Nat.testBit_or,Bool.or_eq_true]
theorem bit_one {k i:Nat}:bit (Nat.shiftLeft 1 k) i↔i=k:=by
 rw [bit_iff]
 show (1 <<< k).testBit i=true↔_
 rw [Nat.one_shiftLeft,Nat.testBit_two_pow]
 simp [eq_comm]
theorem bit_zero {i:Nat}:¬ bit 0 i:=by
 rw [bit_iff]; simp
theorem nth_at:∀ {es:List En} {i:Nat},i<es.length→nth (es.map (·.r)) (es.length - 1 - i)=(atI es i).map (·.r)
 | [],i,h=>by simp at h
 | e :: r,i,h=>by
  unfold atI
  by_cases hi:i=r.length
  ·rw [if_pos hi,hi]
   simp; rfl
  ·rw [if_neg hi]
   have hlt:i<r.length:=by simp at h; omega
   have:(e :: r).length - 1 - i=(r.length - 1 - i)+1:=by simp; omega
   rw [this]
   show nth (r.map (·.r)) (r.length - 1 - i)=_
   exact nth_at hlt
theorem preM_ok {es:List En}:∀ {l:List Edge} {a pre:Nat},preM (es.map (·.r)) es.length l a=some pre →
  (∀ i,bit pre i→bit a i∨∃ x∈l,Region.binds .any x=true∧(i=x.on∨∃ e',atI es x.on=some e'∧bit e'.r.pre i))∧∀ x∈l,Region.binds .any x=true→x.on<es.length
 | [],a,pre,h=>by
  cases h
  exact ⟨fun i hi => .inl hi,fun x hx=>by cases hx⟩
 | x :: r,a,pre,h=>by
  unfold preM at h
  split at h
  ·rename_i hb
   obtain ⟨h1,h2⟩:=preM_ok h
   refine ⟨fun i hi=>(h1 i hi).imp id (fun ⟨y,hy,h⟩=>⟨y,List.mem_cons_of_mem _ hy,h⟩),fun y hy hby=>?_⟩
   rcases List.mem_cons.1 hy with rfl | hy
   ·rw [hb] at hby; cases hby
   ·exact h2 y hy hby
  ·rename_i hb
   split at h <;> first | (cases h; done) | skip
   rename_i rc hn hlt
   have hlt:x.on<es.length:=Nat.le_of_ble_eq_true hlt
   have hn:nth (es.map (·.r)) (es.length - 1 - x.on)=some rc:=hn
   rw [nth_at hlt] at hn
   obtain ⟨e',he',rfl⟩:=Option.map_eq_some_iff.1 hn
   obtain ⟨h1,h2⟩:=preM_ok h
   refine ⟨fun i hi=>?_,fun y hy hby=>?_⟩
   ·rcases h1 i hi with h3 | ⟨y,hy,h3⟩
    ·rcases bit_lor.1 h3 with h4 | h4
     ·exact .inl h4
     ·rcases bit_lor.1 h4 with h5 | h5
      ·exact .inr ⟨x,List.mem_cons_self,hb,.inl (bit_one.1 h5)⟩
      ·exact .inr ⟨x,List.mem_cons_self,hb,.inr ⟨e',he',h5⟩⟩
    ·exact .inr ⟨y,List.mem_cons_of_mem _ hy,h3⟩
   ·rcases List.mem_cons.1 hy with rfl | hy
    ·exact hlt
    ·exact h2 y hy hby
theorem outs_ok {a:Nat}:∀ {es:List En} {i:Nat} {e:En},atI es i=some e→¬ bit a i→e.r∈outs (es.map (·.r)) es.length a
 | [],i,e,h,_=>by cases h
 | e0 :: r,i,e,h,hb=>by
  unfold atI at h
  have go:atI r i=some e→e.r∈outs ((e0 :: r).map (·.r)) (e0 :: r).length a:=fun h=>by
   have ih:=outs_ok h hb
   show e.r∈outs (e0.r :: r.map (·.r)) (Nat.succ r.length) a
   rw [outs_eq]
   split
   ·exact ih
   ·exact List.mem_cons_of_mem _ ih
  split at h
  ·rename_i hi
   cases h
   show e0.r∈outs (e0.r :: r.map (·.r)) (Nat.succ r.length) a
   rw [outs_eq]
   rw [show Nat.beq (Nat.land (Nat.shiftRight a r.length) 1) 1=false from beq_f.2 (fun h=>hb (by rw [hi]; exact h))]
   exact List.mem_cons_self
  ·exact go h
theorem isD_ok:∀ {rs:List Rec} {t:Nat},isD rs t=false→∀ x∈rs,x.dst≠some t
 | [],t,h,x,hx=>by cases hx
 | y :: r,t,h,x,hx=>by
  rw [isD_eq] at h
  split at h
  ·rename_i d hd
   split at h <;> first | (cases h; done) | skip
   rename_i hn
   rcases List.mem_cons.1 hx with rfl | hx
   ·rw [hd]; intro e; injection e with e; exact beq_f.1 hn e
   ·exact isD_ok h x hx
  ·rename_i hd
   rcases List.mem_cons.1 hx with rfl | hx
   ·rw [hd]; simp
   ·exact isD_ok h x hx
theorem maskF_ok {us:List Rec} {F:Fm}:∀ {ts:List Nat} {G:Fm} {t:Nat} {v:V},(maskF us F ts G).get t=some v→G.get t=some v∨(F.get t=some v∧∀ x∈us,x.dst≠some t)
 | [],G,t,v,h => .inl h
 | s :: r,G,t,v,h=>by
  unfold maskF at h
  split at h
  ·exact maskF_ok h
  ·rename_i hd
   rcases maskF_ok h with h1 | h1
   ·by_cases e:t=s
    ·subst e
     rw [Fm.put_same] at h1
     exact .inr ⟨h1,isD_ok hd⟩
    ·rw [Fm.put_other _ _ e] at h1
     exact .inl h1
   ·exact .inr h1
theorem delL_ok:∀ {l:List Nat} {H:PT Ob} {b:Nat} {o:Ob},(delL H l).get b=some o→H.get b=some o∧b ∉ l
 | [],H,b,o,h=>⟨h,by simp⟩
 | x :: r,H,b,o,h=>by
  obtain ⟨h1,h2⟩:=delL_ok (l:=r) h
  by_cases e:b=x
  ·subst e; rw [PT.put_same] at h1; cases h1
  ·rw [PT.put_other _ _ e] at h1
   exact ⟨h1,by simp [e,h2]⟩
theorem delR_ok:∀ {k c:Nat} {H:PT Ob} {b:Nat} {o:Ob},(delR H k c).get b=some o→H.get b=some o∧¬ (c≤b∧b<c+k)
 | 0,c,H,b,o,h=>⟨h,by omega⟩
 | k+1,c,H,b,o,h=>by
  have h:(delR (H.put c none) k (c+1)).get b=some o:=h
  obtain ⟨h1,h2⟩:=delR_ok h
  by_cases e:b=c
  ·subst e; rw [PT.put_same] at h1; cases h1
  ·rw [PT.put_other _ _ e] at h1
   exact ⟨h1,by omega⟩
theorem maskH_ok:∀ {us:List Rec} {H:PT Ob} {b:Nat} {o:Ob},(∀ x∈us,x.c≤x.c')→(maskH us H).get b=some o→H.get b=some o∧∀ x∈us,¬ Tch x b
 | [],H,b,o,_,h=>⟨h,by simp⟩
 | x :: r,H,b,o,hc,h=>by
  obtain ⟨h1,h2⟩:=maskH_ok (us:=r) (fun y hy=>hc y (List.mem_cons_of_mem _ hy)) h
  obtain ⟨h3,h4⟩:=delR_ok h1
  obtain ⟨h5,h6⟩:=delL_ok h3
  have hx:=hc x List.mem_cons_self
  refine ⟨h5,fun y hy=>?_⟩
  rcases List.mem_cons.1 hy with rfl | hy
  ·rintro (h7 | h7)
   ·exact h6 h7
   ·refine h4 ⟨h7.1,?_⟩
    show b<y.c+(y.c' - y.c)
    omega
  ·exact h2 y hy
theorem full_ok {us:List Rec} {op:Op} (h:full us op=true):us=[]:=by
 unfold full at h
 split at h
 ·rfl
 ·cases h
theorem maskM_ok {us:List Rec} {F:Fm} {H:PT Ob} {op:Op} {b:Nat} {o:Ob} (hc:∀ x∈us,x.c≤x.c') (h:(maskM us F H op).get b=some o):H.get b=some o∧∀ x∈us,¬ Tch x b:=by
 unfold maskM at h
 split at h
 ·rename_i hf
  rw [full_ok hf]
  exact ⟨h,by simp⟩
 ·split at h
  ·rw [PT.get_e] at h; cases h
  ·split at h
   ·split at h
    ·rename_i b' off _
     by_cases e:b=b'
     ·subst e
      rw [PT.put_same] at h
      exact maskH_ok hc h
     ·rw [PT.put_other _ _ e,PT.get_e] at h; cases h
    ·rw [PT.get_e] at h; cases h
   ·exact maskH_ok hc h
theorem cpL_ok {K:PT Ob}:∀ {l:List Nat} {H:PT Ob} {b:Nat},(cpL K H l).get b=if b∈l then K.get b else H.get b
 | [],H,b=>by simp [cpL]
 | x :: r,H,b=>by
  show (cpL K (H.put x (K.get x)) r).get b=_
  rw [cpL_ok]
  by_cases e:b=x
  ·subst e; rw [PT.put_same]; simp
  ·rw [PT.put_other _ _ e]; simp [e]
theorem cpR_ok {K:PT Ob}:∀ {k c:Nat} {H:PT Ob} {b:Nat},(cpR K H k c).get b=if c≤b∧b<c+k then K.get b else H.get b
 | 0,c,H,b=>by
  rw [if_neg (by omega)]; rfl
 | k+1,c,H,b=>by
  show (cpR K (H.put c (K.get c)) k (c+1)).get b=_
  rw [cpR_ok]
  by_cases e:b=c
  ·subst e
   rw [PT.put_same,if_pos (by omega:b≤b∧b<b+(k+1))]
   split <;> rfl
  ·rw [PT.put_other _ _ e]
   by_cases h:c+1≤b∧b<c+1+k
   ·rw [if_pos h,if_pos (by omega)]
   ·rw [if_neg h,if_neg (by omega)]
theorem merge_ok {fl:Bool} {H K:PT Ob} {r:Rec} {c:Nat} (hc:c≤r.c') (hr:r.c=c) (hs:fl=true→∀ b,¬ Tch r b→K.get b=H.get b) (b:Nat):(merge fl H K r.wl c r.c').get b=if Tch r b then K.get b else H.get b:=by
 unfold merge
 split
 ·split
  ·rfl
  ·exact hs rfl b ‹_›
 ·rw [cpR_ok,cpL_ok]
  subst hr
  by_cases h1:r.c≤b∧b<r.c'
  ·rw [if_pos (⟨h1.1,by show b<r.c+(r.c' - r.c); omega⟩),if_pos (show Tch r b from .inr h1)]
  ·rw [if_neg (fun h=>h1 ⟨h.1,by have:b<r.c+(r.c' - r.c):=h.2; omega⟩)]
   by_cases h2:b∈r.wl
   ·rw [if_pos h2,if_pos (show Tch r b from .inl h2)]
   ·rw [if_neg h2,if_neg (show ¬ Tch r b by rintro (h | h) <;> contradiction)]
theorem anyB_ok {H:PT Ob}:∀ {l:List Nat},anyB H l=false→∀ b∈l,H.get b=none
 | [],h,b,hb=>by cases hb
 | x :: r,h,b,hb=>by
  unfold anyB at h
  split at h <;> first | (cases h; done) | skip
  rename_i hx
  rcases List.mem_cons.1 hb with rfl | hb
  ·unfold hasB at hx
   split at hx
   ·cases hx
   ·assumption
  ·exact anyB_ok h b hb
theorem clash_ok:∀ {us:List Rec} {wl:List Nat},clash us wl=false→∀ x∈us,∀ b∈wl,x.H.get b=none
 | [],wl,h,x,hx=>by cases hx
 | y :: r,wl,h,x,hx=>by
  unfold clash at h
  split at h <;> first | (cases h; done) | skip
  rename_i hy
  rcases List.mem_cons.1 hx with rfl | hx
  ·exact anyB_ok hy
  ·exact clash_ok h x hx
theorem clean_ok:∀ {l:List Oper} {F:Fm},(∀ t v,(clean l F).get t=some v→F.get t=some v)∧∀ o∈l,∀ t,o.dst=some t→(clean l F).get t=none
 | [],F=>⟨fun t v h=>h,fun o ho=>by cases ho⟩
 | o :: r,F=>by
  unfold clean
  split
  ·rename_i d hd
   obtain ⟨h1,h2⟩:=clean_ok (l:=r) (F:=F.put d none)
   refine ⟨fun t v h=>?_,fun o' ho' t ht=>?_⟩
   ·have:=h1 t v h
    by_cases e:t=d
    ·subst e; rw [Fm.put_same] at this; cases this
    ·rw [Fm.put_other _ _ e] at this; exact this
   ·rcases List.mem_cons.1 ho' with rfl | ho'
    ·rw [hd] at ht
     injection ht with ht
     subst ht
     cases e:(clean r (F.put d none)).get d with
     | none=>rfl
     | some v =>
      have:=h1 d v e
      rw [Fm.put_same] at this
      cases this
    ·exact h2 o' ho' t ht
  ·rename_i hd
   obtain ⟨h1,h2⟩:=clean_ok (l:=r) (F:=F)
   refine ⟨h1,fun o' ho' t ht=>?_⟩
   rcases List.mem_cons.1 ho' with rfl | ho'
   ·rw [hd] at ht; cases ht
   ·exact h2 o' ho' t ht
theorem least:∀ {L:List Nat},L≠[]→∃ i∈L,∀ k∈L,i≤k
 | [],h=>absurd rfl h
 | x :: r,h=>by
  by_cases hr:r=[]
  ·subst hr; exact ⟨x,List.mem_cons_self,fun k hk=>by simp at hk; omega⟩
  ·obtain ⟨i,h1,h2⟩:=least hr
   by_cases hx:x≤i
   ·refine ⟨x,List.mem_cons_self,fun k hk=>?_⟩
    rcases List.mem_cons.1 hk with rfl | hk
    ·exact Nat.le_refl _
    ·exact Nat.le_trans hx (h2 k hk)
   ·refine ⟨i,List.mem_cons_of_mem _ h1,fun k hk=>?_⟩
    rcases List.mem_cons.1 hk with rfl | hk
    ·omega
    ·exact h2 k hk
section
variable {P:Program} {ρ:Rho} {n:Nat} {ops:Array Oper} {F0:Nat→Option V} {H0:Nat→Option Ob} {c0:Nat} {wl0:List Nat}
theorem reg_all {w0 ws:World} {E0:Env} {es:List En} {Q:Exit→Act→World→Prop} (ht:Tr P ρ n ops F0 H0 c0 es) (hl:es.length=ops.size) (hap:Apart H0 c0 (cAt c0 es)) (hf0:Fresh E0 c0 (cAt c0 es)) (hF0:∀ (i:Nat) (o:Oper) (t:Nat),ops[i]?=some o→o.dst=some t→F0 t=none)
  (hQ:∀ E a w,Rel ρ n F0 H0 c0 wl0 w0 ws E0 es All E a w→Q .normal a w):∀ (fuel:Nat) (listed:Array Bool) (L:List Nat) (E:Env) (a:Act) (w:World),listed.size=ops.size→L.Nodup→L.length=fuel→(∀ i,i<ops.size→(listed.getD i true=false↔i∈L))→(∀ i∈L,i<ops.size) →
   Cl es (fun i=>listed.getD i true)→Rel ρ n F0 H0 c0 wl0 w0 ws E0 es (fun i=>listed.getD i true) E a w→wpAny P .any ops Q fuel listed a w:=by
 intro fuel
 induction fuel with
 | zero =>
  intro listed L E a w hsz hnd hlen hL hLt hc hr
  have hnil:L=[]:=List.length_eq_zero_iff.1 hlen
  have hall:(fun i=>listed.getD i true)=All:=by
   funext i
   by_cases hi:i<ops.size
   ·cases h:listed.getD i true with
    | true=>rfl
    | false=>have:=(hL i hi).1 h; rw [hnil] at this; cases this
   ·show listed.getD i true=true
    rw [Array.getD_eq_getD_getElem?,Array.getElem?_eq_none (by omega)]
    rfl
  refine ⟨?_,hQ E a w (by rw [← hall]; exact hr)⟩
  cases h:Region.ready .any ops listed with
  | nil=>rfl
  | cons j r =>
   have hj:j∈Region.ready .any ops listed:=by rw [h]; exact List.mem_cons_self
   obtain ⟨h1,o,h2,_⟩:=mem_ready.1 hj
   have:=(hL j (Array.getElem?_eq_some_iff.1 h2).1).1 h1
   rw [hnil] at this
   cases this
 | succ fuel ih =>
  intro listed L E a w hsz hnd hlen hL hLt hc hr
  refine ⟨fun h0=>?_,fun j hj=>?_⟩
  ·exfalso
   obtain ⟨i,h1,h2⟩:=least (L:=L) (by intro h; rw [h] at hlen; cases hlen)
   have hi:=hLt i h1
   obtain ⟨e,he⟩:=atI_some (es:=es) (i:=i) (by omega)
   obtain ⟨r,k1,k2,k3,q,k4⟩:=ht.at_ he
   have:i∈Region.ready .any ops listed:=by
    refine mem_ready.2 ⟨(hL i hi).2 h1,e.o,by rw [← k2]; exact k1.at_,fun x hx hb=>?_⟩
    have hlt:=k1.aft x hx hb
    have hxs:x.on<listed.size:=by omega
    have:listed.getD x.on true=true:=by
     cases h:listed.getD x.on true with
     | true=>rfl
     | false=>have:=h2 _ ((hL x.on (by omega)).1 h); omega
    rw [Array.getD_eq_getD_getElem?,Array.getElem?_eq_getElem hxs] at this ⊢
    exact this
   rw [h0] at this
   cases this
  ·obtain ⟨hD,o,ho,hall⟩:=mem_ready.1 hj
   have hjlt:=(Array.getElem?_eq_some_iff.1 ho).1
   obtain ⟨e,he⟩:=atI_some (es:=es) (i:=j) (by omega)
   obtain ⟨r,k1,k2,k3,q,k4⟩:=ht.at_ he
   have heo:e.o=o:=by
    have:=k1.at_
    rw [k2,ho] at this
    injection this with this
    exact this.symm
   have hset:(fun i=>(listed.setIfInBounds j true).getD i true)=add (fun i=>listed.getD i true) j:=by
    funext i
    show _=if i=j then true else listed.getD i true
    by_cases hij:i=j
    ·rw [if_pos hij,hij,Array.getD_eq_getD_getElem?,Array.getElem?_setIfInBounds_self_of_lt (by omega)]; rfl
    ·rw [if_neg hij,Array.getD_eq_getD_getElem?,Array.getElem?_setIfInBounds_ne (fun h=>hij h.symm),← Array.getD_eq_getD_getElem?]
   have hpre:∀ i,bit e.r.pre i→listed.getD i true=true:=by
    intro i hi
    obtain ⟨hlt,x,hx,hb,h⟩:=k1.pre i hi
    rw [heo] at hx
    have h1:=hall x hx hb
    have hxl:listed.getD x.on true=true:=by
     rw [Array.getD_eq_getD_getElem?] at h1 ⊢
     cases h2:listed[x.on]? with
     | none=>rfl
     | some y=>rw [h2] at h1; exact h1
    rcases h with rfl | ⟨e',h3,h4⟩
    ·exact hxl
    ·refine hc x.on e' ?_ hxl i h4
     rw [k4]
     rw [atI_app (by have:=atI_lt h3; simp; omega)]
     exact atI_cons h3
   refine hr.step ht hap hf0 hF0 hc he hD hpre (fun E' a' w' hr'=>?_)
   refine ih _ (L.erase j) E' a' w' (by simp [hsz]) (hnd.erase j) ?_ (fun i hi=>?_) (fun i hi=>hLt i (List.mem_of_mem_erase hi)) ?_ (by rw [hset]; exact hr')
   ·rw [List.length_erase_of_mem ((hL j hjlt).1 hD),hlen]; rfl
   ·rw [hnd.mem_erase_iff]
    have:=congrFun hset i
    rw [show (listed.setIfInBounds j true).getD i true=add (fun i=>listed.getD i true) j i from this]
    show (if i=j then true else listed.getD i true)=false↔_
    by_cases hij:i=j
    ·simp [hij]
    ·rw [if_neg hij,hL i hi]; simp [hij]
   ·rw [hset]
    intro k ek hk hDk i hi
    show (if i=j then true else listed.getD i true)=true
    by_cases hij:i=j
    ·rw [if_pos hij]
    ·rw [if_neg hij]
     by_cases hkj:k=j
     ·subst hkj
      rw [he] at hk
      injection hk with hk
      subst hk
      exact hpre i hi
     ·have hDk:(if k=j then true else listed.getD k true)=true:=hDk
      rw [if_neg hkj] at hDk
      exact hc k ek hk hDk i hi
end
end Go.Run
namespace Go.Run
open Go.Eng
set_option linter.unusedVariables false
set_option linter.unusedSimpArgs false
def Qx (e:Ex) (Q:Exit→Act→World→Prop) (a:Act) (w:World):Prop:=match e with
 | .nx=>Q .normal a w
 | .ret=>Q .ret a w
 | .ex i=>Q (.exit i) a w
 | _=>False
def To (w0:World) (E:Env) (m:Mm) (n:Nat) (w:World) (s':St) (K:Act→World→Prop):Prop :=
 ∀ E' a' w',Nx w0 E m.H.get m.c w E' s'.m.H.get s'.m.c s'.m.wl w'→FA E' s'.F n a'→K a' w'
theorem To.trans {w0:World} {E E1:Env} {m m1:Mm} {n:Nat} {w w1:World} {s':St} {K:Act→World→Prop} (h:To w0 E m n w s' K) (h1:Nx w0 E m.H.get m.c w E1 m1.H.get m1.c m1.wl w1) (S1:Sta m m1) (S2:Sta m1 s'.m) (hf:Fresh E m.c s'.m.c):To w0 E1 m1 n w1 s' K :=
 fun E' a' w' hn hfa=>h E' a' w' (h1.trans hn S2.wl hf S1.le S2.le) hfa
abbrev WP:=(Exit→Act→World→Prop)→Act→World→Prop
def RC (ρ:Rho) (n:Nat) (F:Fm) (m:Mm) (W:WP) (e:Ex) (s':St):Prop :=
 ∀ (w0:World) (E:Env) (a:Act) (w:World) (Q:Exit→Act→World→Prop),E.ρ=ρ→FA E F n a→Wr w0 E m.H.get w→Fresh E m.c s'.m.c→NP Q→To w0 E m n w s' (Qx e Q)→W Q a w
theorem RC.seq {ρ:Rho} {n:Nat} {F:Fm} {m:Mm} {W1 W2 W:WP} {s1 s2:St} {e:Ex} (h1:RC ρ n F m W1 .nx s1) (S1:Sta m s1.m) (h2:RC ρ n s1.F s1.m W2 e s2) (S2:Sta s1.m s2.m) (hW:∀ Q a w,W1 (Exit.then (W2 Q) Q) a w→W Q a w):RC ρ n F m W e s2:=by
 intro w0 E a w Q hρ hfa hw hf np hto
 refine hW Q a w (h1 w0 E a w _ hρ hfa hw (hf.sub (Nat.le_refl _) S2.le) (np_then np) (fun E' a' w' hn hfa'=>?_))
 exact h2 w0 E' a' w' Q (hn.ext.ρ.trans hρ) hfa' hn.wr (hn.fresh hf S1.le) np (hto.trans hn S1 S2 hf)
theorem RC.early {ρ:Rho} {n:Nat} {F:Fm} {m:Mm} {W1 W:WP} {s1:St} {e:Ex} {K:(Exit→Act→World→Prop)→Act→World→Prop} (h1:RC ρ n F m W1 e s1) (he:e ≠ .nx) (hW:∀ Q a w,W1 (Exit.then (K Q) Q) a w→W Q a w):RC ρ n F m W e s1:=by
 intro w0 E a w Q hρ hfa hw hf np hto
 refine hW Q a w (h1 w0 E a w _ hρ hfa hw hf (np_then np) (fun E' a' w' hn hfa'=>?_))
 have:=hto E' a' w' hn hfa'
 cases e with
 | nx=>exact absurd rfl he
 | ret=>exact this
 | ex i=>exact this
 | val v=>exact this
 | pan=>exact this
def RF (P:Program) (ρ:Rho) (g:Nat) (xs:List V) (m:Mm) (e:Ex) (s':St):Prop :=
 ∃ v,e = .val v∧(∃ fn,P.funcs[g]?=some fn∧fn.body.isNone=false)∧∀ (w0:World) (E:Env) (us:List Value) (w:World) (K:Ending→World→Prop),E.ρ=ρ→VRs E xs us→Wr w0 E m.H.get w→Fresh E m.c s'.m.c →
  (∀ E' u w',Nx w0 E m.H.get m.c w E' s'.m.H.get s'.m.c s'.m.wl w'→VR E' v u→K (.returned u) w')→Calls P g us.toArray w K
def SF (P:Program) (O:Ora) (ρ:Rho) (f:Nat):Prop:=∀ g xs m ls,go P O f (.call g xs m)=some ls→PC ρ m.pc→Good ρ m ls (RF P ρ g xs m)
def OraOK (P:Program) (O:Ora) (ρ:Rho):Prop:=∀ g xs m ls,O.f g xs m=some ls→PC ρ m.pc→Good ρ m ls (RF P ρ g xs m)
def RS (P:Program) (ρ:Rho) (n:Nat) (o:Oper) (F:Fm) (m:Mm) (e:Ex) (s':St):Prop:=∃ v,e = .val v∧OpS P ρ n F m.H m.c s'.m.H s'.m.c s'.m.wl v o
theorem folv_ok {P:Program} {E:Env} {g:Nat} {w:World}:∀ {path:List FieldStep} {b off:Nat} {t xt:TypeId} {b' off':Nat},folv P path b off t=some (xt,b',off')→E.ν b=some g→E.ν b'=some g∧(follow path t (.var ⟨g,off,none⟩)).run P w = .ok (xt,.var ⟨g,off',none⟩) w
 | [],b,off,t,xt,b',off',h,hg=>by
  cases h
  exact ⟨hg,by simp [follow]⟩
 | s :: r,b,off,t,xt,b',off',h,hg=>by
  unfold folv at h
  split at h <;> first | (cases h; done) | skip
  rename_i f hd hf
  split at h <;> first | (cases h; done) | skip
  rename_i m hm
  obtain ⟨fs,h1,h2⟩:=fdv_ok hf
  obtain ⟨h3,h4⟩:=folv_ok (w:=w) h hg
  refine ⟨h3,?_⟩
  rw [follow]
  simp only [Sem.run_bind,Sem.run_pure,Result.andThen_ok,run_underlying h1,h2,hd,Bool.false_eq_true,if_false,fieldPlace,run_size (szv_ok hm),Nat.add_eq_zero_iff,Nat.succ_ne_zero,Nat.one_ne_zero,and_false,addr_add]
  exact h4
theorem method_ok {P:Program} {E:Env} {t:TypeId} {v r:V} {vv:Value} {m:String} {i:TypeInfo} {q:Method} {f:FuncId} {w:World} (hi:P.info? t=some i) (hq:i.methods.toList.find? (fun q=>q.name == m)=some q) (hf:q.func=some (f,true)) (hr:recvV P t v q.path.toList=some r) (hv:VR E v vv) :
  ∃ rr,VR E r rr∧(method (P.types.size+Made.depth) t vv m).run P w = .ok (f,rr) w:=by
 obtain ⟨k,hk⟩:∃ k,P.types.size+Made.depth=k+1:=Nat.exists_eq_succ_of_ne_zero (by unfold Made.depth; omega)
 have hq':i.methods.find? (fun q=>q.name == m)=some q:=by rw [← Array.find?_toList]; exact hq
 have hti:(typeInfo t).run P w = .ok i w:=by unfold typeInfo; simp [program,Sem.run,hi]
 unfold recvV at hr
 split at hr
 ·rename_i hp
  split at hr <;> first | (cases hr; done) | skip
  rename_i e hd
  cases hr
  refine ⟨vv,hv,?_⟩
  rw [hk,method]
  simp [Sem.run_bind,hti,hq',hp,follow,hf,receiverAt,run_underlying hd,Place.get]
 ·rename_i s rp hp
  split at hr <;> first | (cases hr; done) | skip
  rename_i b off f' hsd hfd
  split at hr <;> first | (cases hr; done) | skip
  rename_i mm hm
  split at hr <;> first | (cases hr; done) | skip
  rename_i xt b' off' hfo
  obtain ⟨g,hg,rfl⟩:=hv
  obtain ⟨h3,h4⟩:=folv_ok (w:=w) hfo hg
  obtain ⟨fs,h1,h2⟩:=fdv_ok hfd
  split at hr <;> first | (cases hr; done) | skip
  rename_i d hne hd
  cases hr
  refine ⟨.pointer (some ⟨g,off',none⟩),⟨g,h3,rfl⟩,?_⟩
  have hfol:(follow q.path.toList t (.val (.pointer (some ⟨g,off,none⟩)))).run P w = .ok (xt,.var ⟨g,off',none⟩) w:=by
   rw [hp,follow]
   simp only [Sem.run_bind,Sem.run_pure,Result.andThen_ok,run_underlying h1,h2,hsd,if_true,Place.get,asAddr,fieldPlace,run_size (szv_ok hm),Nat.add_eq_zero_iff,Nat.succ_ne_zero,Nat.one_ne_zero,and_false,if_false,addr_add]
   exact h4
  have hrec:∀ wr,(receiverAt xt (.var ⟨g,off',none⟩) true wr).run P w = .ok (.pointer (some ⟨g,off',none⟩)) w:=fun wr=>by
   unfold receiverAt
   rw [Sem.run_bind,run_underlying hd]
   cases d <;> first | exact absurd rfl (hne _) | simp
  rw [hk,method]
  simp only [Sem.run_bind,hti,Result.andThen_ok,hq',hfol,hf,hrec,Sem.run_pure]
theorem step1_eq (P:Program) (run:Task→Option Lv) (o:Oper) (s:St):step1 P run o s=match qk o.op with
 | true=>needs s.m (fun m=>match qop P s.F m.H o.op with
  | some (v,_)=>some [(.val v,⟨.nil,m⟩)]
  | none=>none) (qneed s.F o.op)
 | false=>match o.op with
  | .call c=>match c.callee with
   | .builtin _=>match eop P s.F s.m o.dst (.call c) with
    | some (v,m)=>some [(.val v,⟨.nil,m⟩)]
    | none=>none
   | _=>match target P s.F c with
    | some (f,xs)=>run (.call f xs s.m)
    | none=>none
  | op=>match eop P s.F s.m o.dst op with
   | some (v,m)=>some [(.val v,⟨.nil,m⟩)]
   | none=>none:=by
 obtain ⟨F,m⟩:=s
 have hq:s_q P F o.op=fun m=>match qop P F m.H o.op with
  | some (v,_)=>some [(.val v,⟨.nil,m⟩)]
  | none=>none:=by
  funext m
  unfold s_q
  simp only [qopK_eq]
  rfl
 have he:∀ op,s_e P F m o.dst op=match eop P F m o.dst op with
  | some (v,m)=>some [(.val v,⟨.nil,m⟩)]
  | none=>none:=fun op=>by
  unfold s_e
  simp only [eopK_eq]
  rfl
 unfold step1
 simp only [hq,he,qneedK_eq]
 cases qk o.op with
 | true=>rfl
 | false =>
  cases o.op <;> first
   | rfl
   | (rename_i c; show s_call P run F m o.dst c=_; unfold s_call; simp only [he]; cases c.callee <;> rfl)
theorem step1_ok {P : Program} {O : Ora} {ρ : Rho} {f : Nat} (hng : ∀ (g : Nat) (fn : Func), P.funcs[g]? = some fn → (fn.name == "runtime.NumGoroutine") = false) (hf : SF P O ρ f) {n : Nat} {o : Oper} {s : St} {ls : Lv} (h : step1 P (go P O f) o s = some ls) (hp : PC ρ s.m.pc) : Good ρ s.m ls (RS P ρ n o s.F s.m) := by
  rw [step1_eq] at h
  split at h
  · refine needs_ok h hp (fun pc rs' h1 hp1 hneed=>?_)
    split at h1 <;> first | (cases h1; done) | skip
    rename_i v rd hq
    cases h1
    refine Good.one hp1 (Sta.wpc s.m pc) ⟨v,rfl,fun w0 E a w k Q hρ ⟨FL,hfr,hF⟩ hw hfs hk=>?_⟩
    obtain ⟨u,hu,hr⟩:=qop_ok (by rw [hρ]; exact hneed) hq rfl hF hfr hw
    exact Does.wp (.inl (hr w (fun _ _ _ _=>rfl))) (hk E u w (Nx.refl hw _ _) hu)
  · have eff:∀ op v m',o.op=op→eop P s.F s.m o.dst op=some (v,m')→Good ρ s.m [(.val v,⟨.nil,m'⟩)] (RS P ρ n o s.F s.m):=by
      intro op v m' ho he
      obtain ⟨h1,h2⟩:=eop_sta he
      refine Good.one (by show PC ρ m'.pc; rw [h2]; exact hp) h1 ⟨v,rfl,fun w0 E a w k Q hρ ⟨FL,hfr,hF⟩ hw hfs hk=>?_⟩
      obtain ⟨u,w',E',h3,h4,h5⟩:=eop_ok hF hfr hw ho he hfs
      exact h3.wp (hk E' u w' h4 h5)
    split at h
    · rename_i c ho
      split at h
      · split at h <;> first | (cases h; done) | skip
        rename_i v m' he
        cases h
        exact eff _ v m' ho he
      · rename_i hnb
        split at h <;> first | (cases h; done) | skip
        rename_i g xs ht
        refine (hf _ _ _ _ h hp).mono (fun e s1 hs ⟨v,he,⟨fn,q2,q3⟩,q5⟩=>⟨v,he,fun w0 E a w k Q hρ ⟨FL,hfr,hF⟩ hw hfs hk=>?_⟩)
        have fin:∀ us:List Value,VRs E xs us→(execOp a.eval o).run P w = .ok (.enter g us.toArray) w→o.wp P a w k Q:=by
          intro us hus hrun
          unfold Oper.wp
          rw [hrun,Oper.upon_enter]
          exact q5 w0 E _ w _ hρ hus hw hfs (fun E' u w' hn hu=>hk E' u w' hn hu)
        have hname:=hng g fn q2
        unfold target at ht
        split at ht <;> first | (cases ht; done) | skip
        rename_i vs hvs
        obtain ⟨uvs,e1,r1⟩:=eos_ok hF hvs
        have ea:c.args.map a.eval=uvs.toArray:=Array.toList_inj.1 (by simpa using hfr.evs e1)
        split at ht <;> first | (cases ht; done) | skip
        · rename_i x hc
          split at ht <;> first | (cases ht; done) | skip
          rename_i g' us cs hx
          cases ht
          obtain ⟨_,e2,uus,ucs,r2,r3,rfl⟩:=eo_ok hF hx
          have hargs:uus.toArray ++ uvs.toArray ++ ucs.toArray=(uus ++ (uvs ++ ucs)).toArray:=by simp
          refine fin (uus ++ (uvs ++ ucs)) (by rw [ap_eq,ap_eq]; exact r2.app (r1.app r3)) ?_
          simp only [execOp,ho,resolve,hc,ea,hfr.ev e2,Deferred.ofValue,Sem.run_bind,Sem.run_pure,Result.andThen_ok,invoke,hargs,run_callFunc q2 q3 hname]
        · rename_i x m hc
          split at ht <;> first | (cases ht; done) | skip
          rename_i t v hx
          split at ht <;> first | (cases ht; done) | skip
          rename_i i hi
          split at ht <;> first | (cases ht; done) | skip
          rename_i q hq
          split at ht <;> first | (cases ht; done) | skip
          rename_i f' r hqf hrv
          cases ht
          obtain ⟨_,e2,vv,r2,rfl⟩:=eo_ok hF hx
          obtain ⟨rr,r3,r4⟩:=method_ok (w:=w) hi hq hqf hrv r2
          refine fin (rr :: uvs) ⟨rr,uvs,r3,r1,rfl⟩ ?_
          have hext:(#[Value.iface t vv] ++ uvs.toArray).extract 1 (#[Value.iface t vv] ++ uvs.toArray).size=uvs.toArray:=by
            apply Array.toList_inj.1
            simp
          have h0:(#[Value.iface t vv] ++ uvs.toArray)[0]?=some (.iface t vv):=by simp
          have hargs:#[rr] ++ uvs.toArray=(rr :: uvs).toArray:=by simp
          have hpg:(program).run P w = .ok P w:=by simp [program,Sem.run]
          simp only [execOp,ho,resolve,hc,ea,hfr.ev e2,Sem.run_bind,Sem.run_pure,Result.andThen_ok,invoke,h0,hext,callMethod,hpg,r4,hargs,run_callFunc q2 q3 hname]
    · split at h <;> first | (cases h; done) | skip
      rename_i v m' he
      cases h
      exact eff _ v m' rfl he
end Go.Run
namespace Go.Run
open Go.Eng
set_option linter.unusedVariables false
set_option linter.unusedSimpArgs false
def SC (P:Program) (O:Ora) (ρ:Rho) (f:Nat):Prop:=∀ n c s ls,go P O f (.code n c s)=some ls→PC ρ s.m.pc→Good ρ s.m ls (RC ρ n s.F s.m (c.wp P))
def SL (P:Program) (O:Ora) (ρ:Rho) (f:Nat):Prop:=∀ n c s ls,go P O f (.code n (.loop c) s)=some ls→PC ρ s.m.pc→Good ρ s.m ls (RC ρ n s.F s.m (fun Q a w=>Code.rounds P c Q f a w))
def SO (P:Program) (O:Ora) (ρ:Rho) (f:Nat):Prop:=∀ n (ops:Array Oper) k s ls,go P O f (.ord n ops.toList (ops.toList.drop k) s)=some ls→PC ρ s.m.pc→Good ρ s.m ls (fun e s'=>e = .nx∧RC ρ n s.F s.m (fun Q a w=>wpOps P ops Q (List.range' k (ops.size - k)) a w) e s')
def SA (P:Program) (O:Ora) (ρ:Rho) (f:Nat):Prop:=∀ n (ops:Array Oper) (m0:Mm) F0 es s ls,go P O f (.reg n ops.toList (ops.toList.drop es.length) (es.map (·.r)) s)=some ls→PC ρ s.m.pc→Tr P ρ n ops F0 m0.H.get m0.c es →
 (∀ t,s.F.get t=FD All F0 es t)→(∀ b,s.m.H.get b=HD All m0.H.get es b)→s.m.c=cAt m0.c es→s.m.wl=wlAt m0.wl es →
 Good ρ m0 ls (fun e s'=>e = .nx∧∃ es',Tr P ρ n ops F0 m0.H.get m0.c es'∧es'.length=ops.size∧(∀ t,s'.F.get t=FD All F0 es' t)∧(∀ b,s'.m.H.get b=HD All m0.H.get es' b)∧s'.m.c=cAt m0.c es'∧s'.m.wl=wlAt m0.wl es')
theorem put_m (s:St) (d:Option Nat) (v:V):(s.put d v).m=s.m:=by cases d <;> rfl
theorem dOk_put {E E':Env} {s:St} {n:Nat} {a:Act} {o:Oper} {v:V} {u:Value} (hfa:FA E s.F n a) (hx:Ext E E') (hd:dOk n o.dst=true) (hv:VR E' v u):FA E' (s.put o.dst v).F n (a.put o.dst u):=by
 obtain ⟨FL,hfr,hF⟩:=hfa
 cases h:o.dst with
 | none=>exact ⟨FL,hfr.putNone u,hF.mono hx⟩
 | some d=>rw [h] at hd; exact ⟨_,hfr.put (blt_lt hd) u,(hF.mono hx).put d hv⟩
section
variable {P:Program} {O:Ora} {ρ:Rho} {f:Nat}
theorem go_ord (n:Nat) (all rest:List Oper) (s:St):go P O (f+1) (.ord n all rest s)=match rest with
  | []=>some [(.nx,s)]
  | o :: r=>match dOk n o.dst,gv all s.F o.guard with
   | true,some true=>match step1 P (go P O f) o s with
    | some l=>bindL (fun e s'=>match e with
     | .val v=>forkB all o.dst v s'.m (fun v m=>go P O f (.ord n all r (St.put ⟨s.F,m⟩ o.dst v)))
     | .pan=>some [(.pan,s')]
     | _=>none) l
    | none=>none
   | true,some false=>go P O f (.ord n all r (s.put o.dst .und))
   | _,_=>none:=rfl
theorem so_step (hng : ∀ (g : Nat) (fn : Func), P.funcs[g]? = some fn → (fn.name == "runtime.NumGoroutine") = false) (hO : SO P O ρ f) (hF : SF P O ρ f) : SO P O ρ (f + 1) := by
  intro n ops k s ls h hp
  rw [go_ord] at h
  split at h
  · rename_i hd
    cases h
    refine Good.one hp (Sta.refl _) ⟨rfl,fun w0 E a w Q hρ hfa hw hf np hto=>?_⟩
    have hk:ops.size - k=0:=by
      have:=congrArg List.length hd
      simpa using this
    rw [hk]
    exact hto E a w (Nx.refl hw _ _) hfa
  · rename_i o r hd
    have hok:ops[k]?=some o:=by
      have:=congrArg (·[0]?) hd
      simpa using this
    have hr:r=ops.toList.drop (k+1):=by rw [← List.drop_drop (i:=1) (j:=k),hd]; rfl
    have hlt:k<ops.size:=(Array.getElem?_eq_some_iff.1 hok).1
    have hrg:List.range' k (ops.size - k)=k :: List.range' (k+1) (ops.size - (k+1)):=by
      rw [show ops.size - k=(ops.size - (k+1))+1 by omega,List.range'_succ]
    subst hr
    split at h <;> first | (cases h; done) | skip
    · rename_i hdk hg
      split at h <;> first | (cases h; done) | skip
      rename_i l h1
      refine (step1_ok (n:=n) hng hF h1 hp).bind h (fun s r hr=>by cases hr; rfl) (fun e s1 rs hk hp1 S1 hrs=>?_)
      obtain ⟨v,rfl,hop⟩:=hrs
      refine forkB_ok hk hp1 (fun v' pc rs' h2 hpc hv=>?_)
      have ih:=hO n ops (k+1) _ rs' h2 (by rw [put_m]; exact hpc)
      rw [put_m] at ih
      refine (ih.mono (fun e s2 S2 ⟨he,hrc⟩=>⟨he,?_⟩)).from (S1.trans (Sta.wpc _ _))
      intro w0 E a w Q hρ hfa hw hf np hto
      show wpOps P ops Q (List.range' k (ops.size - k)) a w
      rw [hrg]
      simp only [wpOps,hok]
      obtain ⟨FL,hfr,hF'⟩:=hfa
      rw [if_pos (gv_ok hF' hfr hg)]
      refine .inl (hop w0 E a w _ Q hρ ⟨FL,hfr,hF'⟩ hw (hf.sub (Nat.le_refl _) S2.le) (fun E' u w' hn hu=>?_))
      exact hrc w0 E' _ w' Q (hn.ext.ρ.trans hρ) (dOk_put ⟨FL,hfr,hF'⟩ hn.ext hdk (hv E' u (hn.ext.ρ.trans hρ) hu)) hn.wr (hn.fresh hf S1.le) np (hto.trans hn (S1.trans (Sta.wpc _ pc)) S2 hf)
    · rename_i hdk hg
      have ih:=hO n ops (k+1) _ ls h (by rw [put_m]; exact hp)
      rw [put_m] at ih
      refine ih.mono (fun e s2 S2 ⟨he,hrc⟩=>⟨he,?_⟩)
      intro w0 E a w Q hρ hfa hw hf np hto
      show wpOps P ops Q (List.range' k (ops.size - k)) a w
      rw [hrg]
      simp only [wpOps,hok]
      obtain ⟨FL,hfr,hF'⟩:=hfa
      rw [if_neg (by rw [gv_ok hF' hfr hg]; decide)]
      exact hrc w0 E _ w Q hρ (dOk_put ⟨FL,hfr,hF'⟩ (Ext.refl E) hdk rfl) hw hf np hto
theorem go_reg (n:Nat) (all rest:List Oper) (rs:List Rec) (s:St):go P O (f+1) (.reg n all rest rs s)=match rest with
  | []=>some [(.nx,s)]
  | o :: r=>match preM rs (ln rs) o.after.toList 0,dOk n o.dst,(match o.dst with | some d=>isD rs d | none=>false) with
   | some pre,true,false=>regOp P (go P O f) n all r o rs s pre (outs rs (ln rs) pre) (maskF (outs rs (ln rs) pre) s.F (ap (gTmp all o.guard) (tmpsOf o.op.operands.toList)) .nil)
   | _,_,_=>none:=rfl
theorem regOn_eq (run:Task→Option Lv) (n:Nat) (all r:List Oper) (o:Oper) (rs:List Rec) (s:St) (pre:Nat) (us:List Rec) (F:Fm) (K:PT Ob):regOn P run n all r o rs s pre us F K =
 match step1 P run o ⟨F,⟨K,s.m.c,[],s.m.pc⟩⟩ with
 | some l=>bindL (fun e s'=>match e with
  | .val v=>match clash us s'.m.wl with
   | true=>none
   | false=>forkB all o.dst v s'.m (fun v m=>run (.reg n all r (⟨o.dst,pre,m.wl,s.m.c,m.c,K⟩ :: rs)
     (St.put ⟨s.F,⟨merge (full us o.op) s.m.H m.H m.wl s.m.c m.c,m.c,ap m.wl s.m.wl,m.pc⟩⟩ o.dst v)))
  | .pan=>some [(.pan,s')]
  | _=>none) l
 | none=>none:=rfl
theorem regOp_eq (run:Task→Option Lv) (n:Nat) (all r:List Oper) (o:Oper) (rs:List Rec) (s:St) (pre:Nat) (us:List Rec) (F:Fm):regOp P run n all r o rs s pre us F =
 match gv all F o.guard with
 | some false=>run (.reg n all r (⟨o.dst,pre,[],s.m.c,s.m.c,.e⟩ :: rs) (s.put o.dst .und))
 | some true=>regOn P run n all r o rs s pre us F (maskM us F s.m.H o.op)
 | none=>none:=rfl
theorem put_get (s:St) (d:Option Nat) (v:V) (t:Nat):(s.put d v).F.get t=if d=some t then some v else s.F.get t:=by
 cases d with
 | none=>simp [St.put]
 | some x =>
  show (s.F.put x (some v)).get t=_
  by_cases h:t=x
  ·subst h; rw [Fm.put_same,if_pos rfl]
  ·rw [Fm.put_other _ _ h,if_neg (fun e=>h (by injection e with e; exact e.symm))]
theorem outs_sub:∀ {rs:List Rec} {j a:Nat} {x:Rec},x∈outs rs j a→x∈rs
 | [],j,a,x,hx=>by cases j <;> exact hx
 | y :: r,0,a,x,hx=>by cases hx
 | y :: r,j+1,a,x,hx=>by
  rw [outs_eq] at hx
  split at hx
  ·exact List.mem_cons_of_mem _ (outs_sub hx)
  ·rcases List.mem_cons.1 hx with rfl | hx
   ·exact List.mem_cons_self
   ·exact List.mem_cons_of_mem _ (outs_sub hx)
theorem Tr.cc {n:Nat} {ops:Array Oper} {F0:Nat→Option V} {H0:Nat→Option Ob} {c0:Nat}:∀ {es:List En},Tr P ρ n ops F0 H0 c0 es→∀ e∈es,e.r.c≤e.r.c'
 | [],_,e,he=>by cases he
 | e0 :: r,h,e,he=>by
  cases h with
  | cons h1 h2 =>
   rcases List.mem_cons.1 he with rfl | he
   ·exact h1.cc
   ·exact Tr.cc h2 e he
theorem sa_step (hng : ∀ (g : Nat) (fn : Func), P.funcs[g]? = some fn → (fn.name == "runtime.NumGoroutine") = false) (hA : SA P O ρ f) (hF : SF P O ρ f) : SA P O ρ (f + 1) := by
  intro n ops m0 F0 es s ls h hp ht hFe hHe hce hwe
  rw [go_reg] at h
  split at h
  · rename_i hd
    cases h
    have hle:ops.size≤es.length:=by
      have:=congrArg List.length hd
      simp at this
      omega
    have hlen:es.length=ops.size:=by
      cases es with
      | nil=>exact (Nat.le_zero.1 hle).symm
      | cons e r =>
        cases ht with
        | cons h1 h2 =>
          have:=(Array.getElem?_eq_some_iff.1 h1.at_).1
          simp at hle ⊢
          omega
    have hSta:Sta m0 s.m:=by
      refine ⟨by rw [hce]; exact cAt_mono ht,fun b hb=>?_,fun b hb=>?_,fun b hb=>?_,fun b hb hr=>?_⟩
      · rw [hwe]
        clear hFe hHe hce hwe hle hlen ht hd
        induction es with
        | nil=>exact hb
        | cons e r ih=>exact List.mem_append_right _ ih
      · rw [hwe] at hb; rw [hce]; exact wl_live ht hb
      · rw [hHe] at hb; rw [hce]; exact HD_live ht hb
      · rw [hwe] at hb; rw [hce] at hr; rw [hHe]; exact HD_same ht hb hr
    exact Good.one hp hSta ⟨rfl,es,ht,hlen,hFe,hHe,hce,hwe⟩
  · rename_i o r hd
    have hok:ops[es.length]?=some o:=by
      have:=congrArg (·[0]?) hd
      simpa using this
    have hr:r=ops.toList.drop (es.length+1):=by rw [← List.drop_drop (i:=1) (j:=es.length),hd]; rfl
    subst hr
    rw [ln_eq,List.length_map] at h
    split at h <;> first | (cases h; done) | skip
    rename_i pre hpre hdk hdd
    obtain ⟨p1,p2⟩:=preM_ok hpre
    have hnd:∀ i e',atI es i=some e'→∀ t,o.dst=some t→e'.r.dst≠some t:=by
      intro i e' hi t hdt
      rw [hdt] at hdd
      obtain ⟨_,_,_,_,q,hq⟩:=ht.at_ hi
      exact isD_ok hdd _ (List.mem_map.2 ⟨e',by rw [hq]; simp,rfl⟩)
    have hus:∀ i e',atI es i=some e'→¬ bit pre i→e'.r∈outs (es.map (·.r)) es.length pre:=fun i e' hi hb=>outs_ok hi hb
    have husc:∀ x∈outs (es.map (·.r)) es.length pre,x.c≤x.c':=by
      intro x hx
      obtain ⟨e',he',rfl⟩:=List.mem_map.1 (outs_sub hx)
      exact Tr.cc ht e' he'
    have hfr:∀ t v,(maskF (outs (es.map (·.r)) es.length pre) s.F (ap (gTmp ops.toList o.guard) (tmpsOf o.op.operands.toList)) .nil).get t=some v→FD All F0 es t=some v∧∀ i e',atI es i=some e'→¬ bit pre i→e'.r.dst≠some t:=by
      intro t v hv
      rcases maskF_ok hv with h1 | ⟨h1,h2⟩
      · rw [show (Fm.nil).get t=none from Fm.get_nil 0 t] at h1; cases h1
      · exact ⟨by rw [← hFe]; exact h1,fun i e' hi hb=>h2 _ (hus i e' hi hb)⟩
    have hpre':∀ i,bit pre i→i<es.length∧∃ x∈o.after,Region.binds .any x=true∧(i=x.on∨∃ e',atI es x.on=some e'∧bit e'.r.pre i):=by
      intro i hi
      rcases p1 i hi with h1 | ⟨x,hx,hb,h1⟩
      · exact absurd h1 bit_zero
      · have hlt:=p2 x hx hb
        refine ⟨?_,x,by simpa using hx,hb,h1⟩
        rcases h1 with rfl | ⟨e',h3,h4⟩
        · exact hlt
        · obtain ⟨r',k1,k2,_⟩:=ht.at_ h3
          have:=(k1.pre i h4).1
          omega
    rw [regOp_eq] at h
    split at h <;> first | (cases h; done) | skip
    · rename_i hg
      let e:En:=⟨⟨o.dst,pre,[],s.m.c,s.m.c,.e⟩,o,.und,maskF (outs (es.map (·.r)) es.length pre) s.F (ap (gTmp ops.toList o.guard) (tmpsOf o.op.operands.toList)) .nil,.e,false⟩
      have hnt:∀ b,¬ Tch e.r b:=by
        rintro b (hb | hb)
        · cases hb
        · have h1:s.m.c≤b:=hb.1
          have h2:b<s.m.c:=hb.2
          omega
      have hen:EnOK P ρ n ops F0 m0.H.get m0.c e es:={ at_:=hok,dst:=rfl,dOk:=hdk,pre:=hpre',aft:=fun x hx hb=>p2 x (by simpa using hx) hb,fr:=hfr,hp:=fun b ob hb=>(by have hb:(PT.e:PT Ob).get b=some ob:=hb; rw [PT.get_e] at hb; cases hb),cl:=fun _ _ _ _ b hb=>(by cases hb),nd:=fun i e' hi t hdt=>hnd i e' hi t hdt,c:=hce,cc:=Nat.le_refl _,wlive:=fun b hb=>(by cases hb),live:=fun b hb=>(by have hb:(PT.e:PT Ob).get b≠none:=hb; rw [PT.get_e] at hb; exact absurd rfl hb),guard:=hg,off:=fun _=>⟨rfl,rfl,rfl⟩,sem:=fun h=>(by cases h) }
      refine hA n ops m0 F0 (e :: es) _ ls h (by rw [put_m]; exact hp) (.cons hen ht) (fun t=>?_) (fun b=>?_) ?_ ?_
      · rw [put_get]
        show _=if All es.length=true∧o.dst=some t then some .und else FD All F0 es t
        rw [hFe]
        simp [All]
      · rw [put_m]
        show _=if All es.length=true∧Tch e.r b then _ else HD All m0.H.get es b
        rw [if_neg (fun h=>hnt b h.2)]
        exact hHe b
      · rw [put_m]; rfl
      · rw [put_m]; exact hwe
    · rename_i hg
      rw [regOn_eq] at h
      split at h <;> first | (cases h; done) | skip
      rename_i l h1
      refine (step1_ok (n:=n) hng hF h1 hp).bind h (fun s r hr=>by cases hr; rfl) (fun e1 s1 rs hk hp1 S1 hrs=>?_)
      obtain ⟨v,rfl,hop⟩:=hrs
      dsimp only at hk
      split at hk <;> first | (cases hk; done) | skip
      rename_i hcl
      refine forkB_ok hk hp1 (fun v' pc rs' h2 hpc hv=>?_)
      let K:=maskM (outs (es.map (·.r)) es.length pre) (maskF (outs (es.map (·.r)) es.length pre) s.F (ap (gTmp ops.toList o.guard) (tmpsOf o.op.operands.toList)) .nil) s.m.H o.op
      let e:En:=⟨⟨o.dst,pre,s1.m.wl,s.m.c,s1.m.c,K⟩,o,v',maskF (outs (es.map (·.r)) es.length pre) s.F (ap (gTmp ops.toList o.guard) (tmpsOf o.op.operands.toList)) .nil,s1.m.H,true⟩
      have hsem:OpS P ρ n e.F e.r.H e.r.c e.K e.r.c' e.r.wl e.v e.o:=fun w0 E a w k Q hρ hfa hw hfs hkk=>hop w0 E a w k Q hρ hfa hw hfs (fun E' u w' hn hu=>hkk E' u w' hn (hv E' u (hn.ext.ρ.trans hρ) hu))
      have hhp:∀ b ob,e.r.H.get b=some ob→HD All m0.H.get es b=some ob∧∀ i e',atI es i=some e'→¬ bit pre i→¬ Tch e'.r b:=fun b ob hb=>by
        obtain ⟨q1,q2⟩:=maskM_ok husc hb
        exact ⟨by rw [← hHe]; exact q1,fun i e' hi hbi=>q2 _ (hus i e' hi hbi)⟩
      have hwl:∀ b∈e.r.wl,e.r.H.get b≠none∨(e.r.c≤b∧b<e.r.c'):=fun b hb=>by
        rcases S1.wlive b hb with h3 | h3 | h3
        · cases h3
        · exact .inl h3
        · exact .inr h3
      have hen:EnOK P ρ n ops F0 m0.H.get m0.c e es:={ at_:=hok,dst:=rfl,dOk:=hdk,pre:=hpre',aft:=fun x hx hb=>p2 x (by simpa using hx) hb,fr:=hfr,hp:=hhp,cl:=fun i e' hi hbi b hb=>clash_ok hcl _ (hus i e' hi hbi) b hb,nd:=fun i e' hi t hdt=>hnd i e' hi t hdt,c:=hce,cc:=S1.le,wlive:=hwl,live:=fun b hb=>S1.live b hb,guard:=hg,off:=fun h=>(by cases h),sem:=fun _=>hsem }
      refine hA n ops m0 F0 (e :: es) _ rs' h2 (by rw [put_m]; exact hpc) (.cons hen ht) (fun t=>?_) (fun b=>?_) ?_ ?_
      · rw [put_get]
        show _=if All es.length=true∧o.dst=some t then some v' else FD All F0 es t
        rw [hFe]
        simp [All]
      · rw [put_m]
        show (merge (full (outs (es.map (·.r)) es.length pre) o.op) s.m.H s1.m.H s1.m.wl s.m.c s1.m.c).get b=if All es.length=true∧Tch e.r b then s1.m.H.get b else HD All m0.H.get es b
        rw [merge_ok (r:=e.r) S1.le rfl (fun hfl b hnb=>?_),hHe]
        · simp [All]
        · have hK:K=s.m.H:=by
            show maskM _ _ _ _=_
            unfold maskM
            rw [hfl]
          have h5:=S1.same b (fun hm=>hnb (.inl hm)) (by
            rcases Nat.lt_or_ge b s.m.c with h6 | h6
            · exact .inl h6
            · rcases Nat.lt_or_ge b s1.m.c with h7 | h7
              · exact absurd (show Tch e.r b from .inr ⟨h6,h7⟩) hnb
              · exact .inr h7)
          rw [h5]
          show K.get b=_
          rw [hK]
      · rw [put_m]; rfl
      · rw [put_m]
        show ap s1.m.wl s.m.wl=s1.m.wl ++ wlAt m0.wl es
        rw [ap_eq,hwe]
end
end Go.Run
namespace Go.Run
open Go.Eng Go.RowKit
set_option linter.unusedVariables false
set_option linter.unusedSimpArgs false
section
variable {P:Program} {O:Ora} {ρ:Rho} {f:Nat}
theorem nx_uni {w0:World} {E E':Env} {m m':Mm} {w w':World} (hw:Wr w0 E m.H.get w) (hf:Fresh E m.c m'.c) (h:Nx w0 E m.H.get m.c w E' m'.H.get m'.c m'.wl w') (wl:List Nat):Nx w0 E m.H.get m.c w E' m'.H.get m'.c (uni m.c m'.c m'.wl wl) w':=by
 have key:∀ b∈m'.wl,m.H.get b≠none→b∈uni m.c m'.c m'.wl wl:=fun b hb hl=>by
  refine uni_iff.2 (.inl ⟨hb,fun ⟨h1,h2⟩=>?_⟩)
  cases e:m.H.get b with
  | none=>exact hl e
  | some o =>
   obtain ⟨g,_,hg,_⟩:=hw.lr b o e
   rw [(hf b h1 h2).1] at hg
   cases hg
 refine ⟨h.ext,h.wr,h.size,fun b g hb=>?_,h.kap,fun g hg hn=>h.keep g hg (fun b hb hl=>hn b (key b hb hl) hl),fun b hb hr=>?_,h.live⟩
 ·rcases h.nu b g hb with h1 | ⟨h1,h2,h3⟩
  ·exact .inl h1
  ·refine .inr ⟨h1,h2,h3.imp id (fun ⟨b0,h4,h5,h6⟩=>⟨b0,key b0 h4 h5,h5,h6⟩)⟩
 ·refine h.same b (fun hm=>hb (uni_iff.2 (.inl ⟨hm,by omega⟩))) hr
theorem sta_uni {m m':Mm} (h:Sta ⟨m.H,m.c,[],m.pc⟩ m'):Sta m ⟨m'.H,m'.c,uni m.c m'.c m'.wl m.wl,m'.pc⟩:=by
 refine ⟨h.le,fun b hb=>uni_iff.2 (.inr hb),fun b hb=>?_,h.live,fun b hb hr=>h.same b (fun hm=>hb (uni_iff.2 (.inl ⟨hm,?_⟩))) hr⟩
 ·rcases uni_iff.1 hb with ⟨h1,h2⟩ | h1
  ·rcases h.wlive b h1 with h3 | h3 | h3
   ·cases h3
   ·exact .inr (.inl h3)
   ·exact .inr (.inr h3)
  ·exact .inl h1
 ·have hr:b<m.c∨m'.c≤b:=hr
  omega
theorem go_call (g:Nat) (xs:List V) (m:Mm):go P O (f+1) (.call g xs m)=match O.f g xs m with
  | some l=>some l
  | none=>match P.funcs[g]? with
   | some fn=>match fn.body,Nat.ble (ln xs) fn.ntmps with
    | some body,true=>match go P O f (.code fn.ntmps body ⟨enumV 0 xs ⟨O.nv g,.e,[]⟩,⟨m.H,m.c,[],m.pc⟩⟩) with
     | some l=>bindL (fun e s=>match e with
      | .ret=>(match rvs P s.F s.m.H fn.results.toList with | some vs=>some [(.val (packR vs),⟨.nil,⟨s.m.H,s.m.c,uni m.c s.m.c s.m.wl m.wl,s.m.pc⟩⟩)] | none=>none)
      | .nx=>(match rvs P s.F s.m.H fn.results.toList with | some vs=>some [(.val (packR vs),⟨.nil,⟨s.m.H,s.m.c,uni m.c s.m.c s.m.wl m.wl,s.m.pc⟩⟩)] | none=>none)
      | .pan=>some [(.pan,s)]
      | _=>none) l
     | none=>none
    | _,_=>none
   | none=>none:=rfl
theorem sf_step (hO:OraOK P O ρ) (hC:SC P O ρ f):SF P O ρ (f+1):=by
 intro g xs m ls h hp
 rw [go_call] at h
 split at h
 ·rename_i l hl
  cases h
  exact hO _ _ _ _ hl hp
 ·split at h <;> first | (cases h; done) | skip
  rename_i fn hfn
  split at h <;> first | (cases h; done) | skip
  rename_i body hbd hlen
  have hlen:=Nat.le_of_ble_eq_true hlen
  rw [ln_eq] at hlen
  split at h <;> first | (cases h; done) | skip
  rename_i l hgo
  refine (hC _ _ _ _ hgo hp).bind h (fun s r hr=>by cases hr; rfl) (fun e s1 rs hk hp1 S1 hrc=>?_)
  have main:(e = .ret∨e = .nx)→(match rvs P s1.F s1.m.H fn.results.toList with | some vs=>some [(Ex.val (packR vs),(⟨.nil,⟨s1.m.H,s1.m.c,uni m.c s1.m.c s1.m.wl m.wl,s1.m.pc⟩⟩:St))] | none=>none)=some rs→Good ρ m rs (RF P ρ g xs m):=by
   intro he hres
   split at hres <;> first | (cases hres; done) | skip
   rename_i vs hvs
   cases hres
   refine Good.one hp1 (sta_uni S1) ⟨_,rfl,⟨fn,hfn,by rw [hbd]; rfl⟩,fun w0 E us w K hρ hx hw hf hK=>?_⟩
   refine Calls.mono (R:=fun e w'=>(∃ u,e = .returned u)∧K e w') ?_ (fun e w h=>h.2)
   refine calls_of_wp hfn hbd ?_
   refine hrc w0 E _ w _ hρ ⟨_,fr0 (by rw [hx.len]; exact hlen),frame0 (O.nv g) hx⟩ hw hf ⟨fun ch a w hq=>?_,fun a w hq=>?_⟩ (fun E' a' w' hn hfa=>?_)
   ·obtain ⟨_,⟨u,hu⟩,_⟩:=hq
    cases hu
   ·obtain ⟨⟨u,hu⟩,_⟩:=hq
    cases hu
   ·obtain ⟨FL,hfr,hF'⟩:=hfa
    obtain ⟨u,q1,q2⟩:=results_ok (fn:=fn) hF' hfr hn.wr hvs
    have hK':=hK E' u w' (nx_uni (m:=⟨m.H,m.c,[],m.pc⟩) (m':=s1.m) hw hf hn m.wl) q2
    rcases he with rfl | rfl
    ·exact ⟨hfr.defers,u,q1,⟨u,rfl⟩,hK'⟩
    ·exact ⟨hfr.defers,u,q1,⟨u,rfl⟩,hK'⟩
  cases e with
  | ret=>exact main (.inl rfl) hk
  | nx=>exact main (.inr rfl) hk
  | pan=>cases hk; exact Good.pan hp1
  | ex i=>cases hk
  | val v=>cases hk
theorem go_seq (n:Nat) (a b:Code) (s:St):go P O (f+1) (.code n (.seq a b) s)=match go P O f (.code n a s) with
   | some l=>bindL (fun e s'=>match e with | .nx=>go P O f (.code n b s') | e=>some [(e,s')]) l
   | none=>none:=rfl
theorem go_cond (n:Nat) (x:Operand) (a b:Code) (s:St):go P O (f+1) (.code n (.cond x a b) s)=match eo s.F x with
   | some (.bool e)=>dec s.m.pc e (fun t pc=>match t with
    | true=>go P O f (.code n a ⟨s.F,s.m.wpc pc⟩)
    | false=>go P O f (.code n b ⟨s.F,s.m.wpc pc⟩))
   | _=>none:=rfl
theorem go_block (n i:Nat) (a:Code) (s:St):go P O (f+1) (.code n (.block i a) s)=match go P O f (.code n a s) with
   | some l=>bindL (fun e s'=>match e with
    | .ex j=>(match Nat.beq j i with | true=>some [(.nx,s')] | false=>some [(.ex j,s')])
    | e=>some [(e,s')]) l
   | none=>none:=rfl
theorem go_loop (n:Nat) (a:Code) (s:St):go P O (f+1) (.code n (.loop a) s)=match go P O f (.code n a s) with
   | some l=>bindL (fun e s'=>match e with | .nx=>go P O f (.code n (.loop a) s') | e=>some [(e,s')]) l
   | none=>none:=rfl
theorem go_rord (n i:Nat) (ops:Array Oper) (s:St):go P O (f+1) (.code n (.region i ops false) s)=go P O f (.ord n ops.toList ops.toList ⟨s.F.fresh,s.m⟩):=rfl
theorem go_rany (n i:Nat) (ops:Array Oper) (s:St):go P O (f+1) (.code n (.region i ops true) s)=match Region.noSelect ops with
   | true=>go P O f (.reg n ops.toList ops.toList [] ⟨clean ops.toList s.F.fresh,s.m⟩)
   | false=>none:=rfl
theorem sl_step (hC:SC P O ρ f) (hL:SL P O ρ f):SL P O ρ (f+1):=by
 intro n c s ls h hp
 rw [go_loop] at h
 split at h <;> first | (cases h; done) | skip
 rename_i l h1
 refine (hC _ _ _ _ h1 hp).bind h (fun s r hr=>by cases hr; rfl) (fun e s1 rs hk hp1 S1 hrc=>?_)
 cases e with
 | nx =>
  refine ((hL _ _ _ _ hk hp1).mono (fun e2 s2 S2 hrc2=>?_)).from S1
  exact hrc.seq S1 hrc2 S2 (fun Q a w h=>by rw [rounds_succ]; exact h)
 | pan=>cases hk; exact Good.pan hp1
 | ret =>
  cases hk
  exact Good.one hp1 S1 (hrc.early (K:=fun Q a w=>Code.rounds P c Q f a w) (by simp) (fun Q a w h=>by rw [rounds_succ]; exact h))
 | ex i =>
  cases hk
  exact Good.one hp1 S1 (hrc.early (K:=fun Q a w=>Code.rounds P c Q f a w) (by simp) (fun Q a w h=>by rw [rounds_succ]; exact h))
 | val v =>
  cases hk
  exact Good.one hp1 S1 (hrc.early (K:=fun Q a w=>Code.rounds P c Q f a w) (by simp) (fun Q a w h=>by rw [rounds_succ]; exact h))
theorem drew_wr {w0:World} {E:Env} {H:Nat→Option Ob} {w:World} (h:Wr w0 E H w):Wr w0 E H { w with drawn:=w.drawn+1 } :=
 ⟨⟨h.agree.os,h.agree.tape,h.agree.output,h.agree.size,h.agree.frame⟩,h.lr,h.own,h.inj⟩
theorem FD_no {D:Nat→Bool} {F0:Nat→Option V}:∀ {es:List En} {t:Nat},(∀ i,i<es.length→D i=false)→FD D F0 es t=F0 t
 | [],t,_=>rfl
 | e :: r,t,h=>by
  show (if D r.length=true∧e.r.dst=some t then some e.v else FD D F0 r t)=_
  rw [if_neg (by rw [h r.length (by simp)]; simp),FD_no (fun i hi=>h i (by simp; omega))]
theorem HD_no {D:Nat→Bool} {H0:Nat→Option Ob}:∀ {es:List En} {t:Nat},(∀ i,i<es.length→D i=false)→HD D H0 es t=H0 t
 | [],t,_=>rfl
 | e :: r,t,h=>by
  show (if D r.length=true∧Tch e.r t then e.K.get t else HD D H0 r t)=_
  rw [if_neg (by rw [h r.length (by simp)]; simp),HD_no (fun i hi=>h i (by simp; omega))]
theorem region_any (hm:P.follows .mixedOrders=true) (hA:SA P O ρ f) {n i:Nat} {ops:Array Oper} {s:St} {ls:Lv} (hns:Region.noSelect ops=true) (h:go P O f (.reg n ops.toList ops.toList [] ⟨clean ops.toList s.F.fresh,s.m⟩)=some ls) (hp:PC ρ s.m.pc):Good ρ s.m ls (RC ρ n s.F s.m ((Code.region i ops true).wp P)):=by
 obtain ⟨q1,q2⟩:=clean_ok (l:=ops.toList) (F:=s.F.fresh)
 refine (hA n ops s.m (clean ops.toList s.F.fresh).get [] ⟨clean ops.toList s.F.fresh,s.m⟩ ls h hp .nil (fun t=>rfl) (fun b=>rfl) rfl rfl).mono (fun e s' S ⟨he,es,ht,hlen,hF,hH,hc,hwl⟩=>?_)
 subst he
 intro w0 E a w Q hρ hfa hw hf np hto
 refine wp_region_any hm ?_
 rw [hc] at hf
 have hlt:∀ i,i<ops.size→(Array.replicate ops.size false).getD i true=false:=fun i hi=>by
  rw [Array.getD_eq_getD_getElem?,Array.getElem?_replicate,if_pos hi]; rfl
 refine reg_all (w0:=w0) (ws:={ w with drawn:=w.drawn+1 }) (E0:=E) (wl0:=s.m.wl) ht hlen (fun b hb ⟨h1,h2⟩=>?_) hf (fun i o t ho hd=>q2 o (by rw [Array.mem_toList_iff]; exact Array.mem_of_getElem? ho) t hd) (fun E' a' w' hr=>?_) ops.size (Array.replicate ops.size false) (List.range ops.size) E a _ (by simp) List.nodup_range (by simp) (fun i hi=>by rw [hlt i hi]; simp [hi]) (fun i hi=>by simpa using hi) (fun k e hk hD=>?_) ?_
 ·cases e:s.m.H.get b with
  | none=>exact hb e
  | some o =>
   obtain ⟨g,_,hg,_⟩:=hw.lr b o e
   rw [(hf b h1 h2).1] at hg
   cases hg
 ·have eH:HD All s.m.H.get es=s'.m.H.get:=funext fun b=>(hH b).symm
  have hn:=hr.nx
  rw [eH,← hc,← hwl] at hn
  refine hto E' a' w' ⟨hn.ext,hn.wr,hn.size,hn.nu,hn.kap,hn.keep,hn.same,hn.live⟩ ?_
  obtain ⟨FL,h1,h2⟩:=hr.fa
  exact ⟨FL,h1,fun t v hv=>h2 t v (by rw [← hF]; exact hv)⟩
 ·have:=atI_lt hk
  have h1:=hlt k (by omega)
  have h2:(Array.replicate ops.size false).getD k true=true:=hD
  rw [h1] at h2
  cases h2
 ·have hno:∀ i,i<es.length→(fun i=>(Array.replicate ops.size false).getD i true) i=false:=fun i hi=>hlt i (by omega)
  obtain ⟨FL,h1,h2⟩:=hfa
  have eH:HD (fun i=>(Array.replicate ops.size false).getD i true) s.m.H.get es=s.m.H.get:=funext fun b=>HD_no hno
  refine ⟨hρ,⟨FL,h1,fun t v hv=>?_⟩,?_,fun i e hi _=>?_⟩
  ·rw [FD_no hno] at hv
   exact h2 t v (Fm.get_fresh (q1 t v hv))
  ·rw [eH]
   exact ⟨Ext.refl E,drew_wr hw,Nat.le_refl _,fun b g hb => .inl hb,fun i k hi => .inl hi,fun _ _ _=>rfl,fun _ _ _=>rfl,fun b hb => .inl hb⟩
  ·have:=at_c ht hi
   exact hf.sub (by omega) (by omega)
theorem sc_step (hm:P.follows .mixedOrders=true) (hC:SC P O ρ f) (hL:SL P O ρ (f+1)) (hO:SO P O ρ f) (hA:SA P O ρ f):SC P O ρ (f+1):=by
 intro n c s ls h hp
 have self:∀ {e:Ex} {W:WP},(∀ Q a w,Qx e Q a w→W Q a w)→Good ρ s.m [(e,s)] (RC ρ n s.F s.m W):=fun hW=>Good.one hp (Sta.refl _) (fun w0 E a w Q hρ hfa hw hf np hto=>hW Q a w (hto E a w (Nx.refl hw _ _) hfa))
 cases c with
 | skip=>cases h; exact self (fun Q a w h=>wp_skip h)
 | ret=>cases h; exact self (fun Q a w h=>wp_ret h)
 | exit i=>cases h; exact self (fun Q a w h=>wp_exit h)
 | label l=>cases h; exact self (fun Q a w h=>wp_label h)
 | seq x y =>
  rw [go_seq] at h
  split at h <;> first | (cases h; done) | skip
  rename_i l h1
  refine (hC _ _ _ _ h1 hp).bind h (fun s r hr=>by cases hr; rfl) (fun e s1 rs hk hp1 S1 hrc=>?_)
  cases e with
  | nx=>exact ((hC _ _ _ _ hk hp1).mono (fun e2 s2 S2 hrc2=>hrc.seq S1 hrc2 S2 (fun Q a w h=>wp_seq h))).from S1
  | pan=>cases hk; exact Good.pan hp1
  | ret=>cases hk; exact Good.one hp1 S1 (hrc.early (K:=fun Q a w=>y.wp P Q a w) (by simp) (fun Q a w h=>wp_seq h))
  | ex i=>cases hk; exact Good.one hp1 S1 (hrc.early (K:=fun Q a w=>y.wp P Q a w) (by simp) (fun Q a w h=>wp_seq h))
  | val v=>cases hk; exact Good.one hp1 S1 (hrc.early (K:=fun Q a w=>y.wp P Q a w) (by simp) (fun Q a w h=>wp_seq h))
 | cond x y z =>
  rw [go_cond] at h
  split at h <;> first | (cases h; done) | skip
  rename_i e hx
  obtain ⟨pc',rs',h1,h2,h3⟩:=dec_ok h hp
  refine Good.sub ?_ h3
  have ev:∀ {E:Env} {a:Act} {FL:Eng.FL},E.ρ=ρ→Fr ⟨n,[]⟩ a FL→FRel E s.F FL→a.eval x = .bool (e.den ρ).b:=fun hρ hfr hF=>by
   obtain ⟨u,e1,r⟩:=eo_ok hF hx
   rw [hfr.ev e1,show u = .bool (e.den _).b from r,hρ]
  cases hb:(e.den ρ).b with
  | true =>
   rw [hb] at h1
   refine ((hC _ _ _ _ h1 h2).mono (fun e2 s2 S2 hrc=>?_)).from (Sta.wpc _ _)
   intro w0 E a w Q hρ hfa hw hf np hto
   have hev:=ev hρ hfa.choose_spec.1 hfa.choose_spec.2
   rw [hb] at hev
   exact wp_cond_split hev (fun _=>hrc w0 E a w Q hρ hfa hw hf np hto) (fun e=>by cases e)
  | false =>
   rw [hb] at h1
   refine ((hC _ _ _ _ h1 h2).mono (fun e2 s2 S2 hrc=>?_)).from (Sta.wpc _ _)
   intro w0 E a w Q hρ hfa hw hf np hto
   have hev:=ev hρ hfa.choose_spec.1 hfa.choose_spec.2
   rw [hb] at hev
   exact wp_cond_split hev (fun e=>by cases e) (fun _=>hrc w0 E a w Q hρ hfa hw hf np hto)
 | block i x =>
  rw [go_block] at h
  split at h <;> first | (cases h; done) | skip
  rename_i l h1
  refine (hC _ _ _ _ h1 hp).bind h (fun s r hr=>by cases hr; rfl) (fun e s1 rs hk hp1 S1 hrc=>?_)
  have fin:∀ e',(∀ Q a w,Qx e' Q a w→Qx e (Exit.inBlock i Q) a w)→RC ρ n s.F s.m ((Code.block i x).wp P) e' s1:=by
   intro e' he' w0 E a w Q hρ hfa hw hf np hto
   exact wp_block (hrc w0 E a w _ hρ hfa hw hf (np_block np) (fun E' a' w' hn hfa'=>he' Q a' w' (hto E' a' w' hn hfa')))
  cases e with
  | ex j =>
   dsimp only at hk
   split at hk
   ·rename_i hj
    have hj:=Nat.eq_of_beq_eq_true hj
    cases hk
    exact Good.one hp1 S1 (fin .nx (fun Q a w h=>by show Exit.inBlock i Q (.exit j) a w; simp only [Exit.inBlock,hj,if_true]; exact h))
   ·rename_i hj
    have hj:=beq_f.1 hj
    cases hk
    exact Good.one hp1 S1 (fin (.ex j) (fun Q a w h=>by show Exit.inBlock i Q (.exit j) a w; simp only [Exit.inBlock,hj,if_false]; exact h))
  | nx=>cases hk; exact Good.one hp1 S1 (fin .nx (fun Q a w h=>h))
  | ret=>cases hk; exact Good.one hp1 S1 (fin .ret (fun Q a w h=>h))
  | val v=>cases hk; exact Good.one hp1 S1 (fin (.val v) (fun Q a w h=>h))
  | pan=>cases hk; exact Good.pan hp1
 | scope x =>
  have h:go P O f (.code n x s)=some ls:=h
  refine (hC _ _ _ _ h hp).mono (fun e s1 S1 hrc=>?_)
  intro w0 E a w Q hρ hfa hw hf np hto
  refine wp_scope_straight ?_
  refine hrc w0 E a w _ hρ hfa hw hf ⟨fun c a w hq=>np.1 c a w hq,fun a w hq=>np.2 a w hq⟩ (fun E' a' w' hn hfa'=>?_)
  have:=hto E' a' w' hn hfa'
  cases e <;> exact this
 | loop x =>
  refine (hL _ _ _ _ h hp).mono (fun e s1 S1 hrc=>?_)
  intro w0 E a w Q hρ hfa hw hf np hto
  exact wp_loop_rounds _ (hrc w0 E a w Q hρ hfa hw hf np hto)
 | region i ops any =>
  cases any with
  | false =>
   rw [go_rord] at h
   refine (hO n ops 0 ⟨s.F.fresh,s.m⟩ ls (by rw [List.drop_zero]; exact h) hp).mono (fun e s1 S1 ⟨he,hrc⟩=>?_)
   intro w0 E a w Q hρ hfa hw hf np hto
   refine wp_region ?_
   have:=hrc w0 E a w Q hρ (by obtain ⟨FL,h1,h2⟩:=hfa; exact ⟨FL,h1,fun t v hv=>h2 t v (Fm.get_fresh hv)⟩) hw hf np hto
   rw [Nat.sub_zero,← List.range_eq_range'] at this
   exact this
  | true =>
   rw [go_rany] at h
   split at h <;> first | (cases h; done) | skip
   rename_i hns
   exact region_any hm hA hns h hp
 | _=>exact absurd (show (none:Option Lv)=_ from h) (by simp)
theorem snd_all (hm : P.follows .mixedOrders = true) (hng : ∀ (g : Nat) (fn : Func), P.funcs[g]? = some fn → (fn.name == "runtime.NumGoroutine") = false) (hO : OraOK P O ρ) : ∀ f, SC P O ρ f ∧ SL P O ρ f ∧ SO P O ρ f ∧ SA P O ρ f ∧ SF P O ρ f
  | 0=>⟨fun _ _ _ _ h=>(by cases h),fun _ _ _ _ h=>(by cases h),fun _ _ _ _ _ h=>(by cases h),fun _ _ _ _ _ _ _ h=>(by cases h),fun _ _ _ _ h=>(by cases h)⟩
  | f+1=>by
    obtain ⟨h1,h2,h3,h4,h5⟩:=snd_all hm hng hO f
    have hl:=sl_step h1 h2
    exact ⟨sc_step hm h1 hl h3 h4,hl,so_step hng h3 h5,sa_step hng h4 h5,sf_step hO h1⟩
theorem hng_of (hng : (P.funcs.toList.all fun fn => !(fn.name == "runtime.NumGoroutine")) = true) : ∀ (g : Nat) (fn : Func), P.funcs[g]? = some fn → (fn.name == "runtime.NumGoroutine") = false := fun g fn hg => by
  have:=List.all_eq_true.1 hng fn (by rw [Array.mem_toList_iff]; exact Array.mem_of_getElem? hg)
  simpa using this
noncomputable def isT:Option Lv→Bool
 | some [(.val (.bool (.bl true)),_)]=>true
 | _=>false
theorem run_true (hm : P.follows .mixedOrders = true) (hng : (P.funcs.toList.all fun fn => !(fn.name == "runtime.NumGoroutine")) = true) (hO : OraOK P O rho0) (f g : Nat) (h : isT (go P O f (.call g [] ⟨.e, 0, [], []⟩)) = true) (w : World) : Calls P g #[] w fun e w' => e = .returned (.bool true) ∧ Below w.heap.size w w' := by
  unfold isT at h
  split at h <;> first | (cases h; done) | skip
  rename_i s' hgo
  obtain ⟨_,_,_,_,hF⟩:=snd_all hm (hng_of hng) hO f
  obtain ⟨l,hl,_,hr⟩:=hF g [] _ _ hgo (fun p hp=>by cases hp)
  rw [List.mem_singleton] at hl
  subst hl
  rcases hr with hr | ⟨_,v,hv,_,k⟩
  · cases hr
  · injection hv with hv
    subst hv
    refine k w ⟨rho0,fun _=>none,fun _=>none⟩ [] w _ rfl rfl ⟨Agree.refl _ _,fun b o hb=>?_,fun b g hb=>(by cases hb),fun b b' g _ _ hb=>(by cases hb)⟩ (fun b _ _=>⟨rfl,rfl⟩) (fun E' u w' hn hu=>?_)
    · have hb:(PT.e:PT Ob).get b=some o:=hb
      rw [PT.get_e] at hb
      cases hb
    · exact ⟨by rw [show u = .bool true from hu],hn.wr.agree.below⟩
end
end Go.Run
namespace Go.Run
open Go.Eng Go.RowKit
set_option linter.unusedVariables false
set_option linter.unusedSimpArgs false
section
variable {P:Program} {O:Ora} {ρ:Rho}
theorem nx_below {w0:World} {E:Env} {H:Nat→Option Ob} {w w':World} (hw:Wr w0 E H w) (h:Below w.heap.size w w') (c:Nat) (wl:List Nat):Nx w0 E H c w E H c wl w':=by
 have ha:Agree [] w w':=Agree.of_below h
 refine ⟨Ext.refl E,⟨agree0 hw (by simp) ha,fun b o hb=>?_,fun b g hb=>?_,hw.inj⟩,ha.size,fun _ _ h => .inl h,fun _ _ h => .inl h,fun g hg _=>ha.frame g hg (by simp),fun _ _ _=>rfl,fun _ h => .inl h⟩
 ·obtain ⟨g,obj,h1,h2,h3⟩:=hw.lr b o hb
  exact ⟨g,obj,h1,(ha.frame g (Array.getElem?_eq_some_iff.1 h2).1 (by simp)).trans h2,h3⟩
 ·have:=hw.own b g hb
  have:=ha.size
  exact ⟨by omega,by omega⟩
end
end Go.Run
namespace Go.Eng
open Go.Proofs Go.RowKit Go.Proofs.YtgbcnokeaaabfaaGreatW.PrintWords
set_option linter.unusedVariables false
set_option linter.unusedSimpArgs false
set_option maxRecDepth 100000 in
set_option maxHeartbeats 4000000 in
theorem pack_Cells_no (k:Nat) (T S C H K V L:Int) (A:Option Addr) (c:Nat) (l:List Int) (B:Option Addr) (d:Nat) (ll:List (List S53)) (hr:shape_Rest.f k T S C H K V L l ll=some false) (w0:World) (Hs:List Nat):Con Tryz.prog 8 #[.agg (cfA T S C H K V L),.slice A l.length c,.slice B ll.length d] w0 Hs [.f (KU A c l),.f (KC (Kd.slice 53 k53) B d ll)] (fun X=>X (.tuple #[.slice none 0 0,.bool false]) []):=by
 refine con_enter (c:=bodyOf Tryz.f8) Tryz.func8 rfl (m:=119) rfl rfl rfl ?_
 intro X hX _
 refine c_seq rfl ?_
 refine r_ordb (l:=[0,1,2]) rfl (by kernel_rfl) ?_
 refine s_e rfl rfl (e_box rfl rfl rfl rfl) ?_
 intro b1_
 refine sA rfl ?_
 refine sA rfl ?_
 refine sE rfl ?_
 refine c_seq rfl ?_
 refine r_ordb (l:=[0,1,2,3,4]) rfl (by kernel_rfl) ?_
 refine sV rfl (vLA (lfA T S C H K V L) 0 Tryz.underlying23 SZ23 rfl) ?_
 refine sM rfl ?_
 refine sM rfl ?_
 refine s_e rfl rfl (eC [1,2] #[.agg (cfA T S C H K V L),.slice A l.length c,.slice B ll.length d] Tryz.func26 (by decide) rfl (fun w ht=>shape_Rest_con _ T S C H K V L A c l B d ll false hr w _)) ?_
 refine sV rfl (v_not rfl rfl) ?_
 refine sQ ?_
 refine c_cond1 rfl rfl ?_
 refine c_seq rfl ?_
 refine r_ordb (l:=[0,1]) rfl (by kernel_rfl) ?_
 refine sA rfl ?_
 refine sA rfl ?_
 refine sQ ?_
 refine c_ret rfl ?_
 refine q_then_ret ?_
 exact q_ret (vs:=[.slice none 0 0,.bool false]) rfl (.tmp rfl (.tmp rfl .nil)) [] rfl (by decide) hX
end Go.Eng
namespace Go.Run
open Go.Eng Go.RowKit Go.Proofs Go.Proofs.YtgbcnokeaaabfaaGreatW.PrintWords
set_option linter.unusedVariables false
set_option linter.unusedSimpArgs false
noncomputable def rowC (H:PT Ob) (m:Nat):V→Option (List V)
 | .nsl=>some []
 | .sl b off len cap=>match Nat.beq off 0,H.get b with
  | true,some o=>match roomOk o cap m with
   | true=>prt o.cells 0 (Nat.mul len m)
   | false=>none
  | _,_=>none
 | _=>none
theorem rowC_ok {w0 w:World} {E:Env} {H:PT Ob} (hw:Wr w0 E H.get w) {m:Nat} {v:V} {ns:List V} {u:Value} (h:rowC H m v=some ns) (hv:VR E v u) :
  ∃ A len c vs,u = .slice A len c∧VRs E ns vs∧vs.length=len * m∧∀ {α:Type} {d:Kd α} {xs:List α},d.sz=m→xs.length=len→Reps (d.K w) d.sz xs vs→KC d A c xs w:=by
 cases v with
 | nsl =>
  cases h
  refine ⟨none,0,0,[],hv,rfl,by simp,fun hd hx hr=>?_⟩
  rw [List.eq_nil_of_length_eq_zero hx]
  exact KC_nil _ w
 | sl b off len cap =>
  have h2:(match Nat.beq off 0,H.get b with | true,some o=>(match roomOk o cap m with | true=>prt o.cells 0 (Nat.mul len m) | false=>none) | _,_=>none)=some ns:=h
  clear h
  split at h2 <;> first | (cases h2; done) | skip
  rename_i o hoff hb
  split at h2 <;> first | (cases h2; done) | skip
  rename_i hr
  obtain rfl:=Nat.eq_of_beq_eq_true hoff
  obtain ⟨g,c,hg,hc,hlc,rfl⟩:=hv
  obtain ⟨g',obj,hg',hh,hor⟩:=hw.lr b o hb
  rw [hg] at hg'
  cases hg'
  obtain ⟨us,cur,hus,hobj,htk,hsz,hmx⟩:=room_ok hor hr hc
  obtain ⟨p1,p2,p3⟩:=prt_ok h2 hus
  rw [Nat.zero_add] at p1
  have hlen:us.length=o.cells.length:=by rw [← hus.len]
  subst hobj
  refine ⟨_,len,c,us.take (len * m),rfl,?_,?_,fun hd hx hrp=>KC_ofReps0 hh hrp ?_ (by rw [hx]; exact hlc) hmx⟩
  ·simpa using p3
  ·rw [List.length_take,hlen]
   exact Nat.min_eq_left p1
  ·rw [hx,hd,← htk,List.take_take,Nat.min_eq_left (by rw [hlen]; exact p1)]
 | _=>cases h
noncomputable def lits:List V→Option (List Int)
 | []=>some []
 | .int .u64 (.lit n) :: r=>match lits r with | some l=>some (n :: l) | none=>none
 | _=>none
theorem lits_ok {E:Env}:∀ {ns:List V} {l:List Int} {vs:List Value},lits ns=some l→VRs E ns vs→vs=l.flatMap (fun x=>[.int .u64 x])∧l.length=ns.length
 | [],l,vs,h,hv=>by cases h; exact ⟨hv,rfl⟩
 | v :: r,l,vs,h,hv=>by
  unfold lits at h
  split at h <;> first | (cases h; done) | skip
  ·rename_i q; cases q
  ·rename_i n r' q
   cases q
   split at h <;> first | (cases h; done) | skip
   rename_i l' hl
   cases h
   obtain ⟨x,xs,h1,h2,rfl⟩:=hv
   obtain ⟨e,e2⟩:=lits_ok hl h2
   refine ⟨?_,by simp [e2]⟩
   rw [List.flatMap_cons,← e]
   exact congrArg (· :: xs) h1
noncomputable def rdU (H:PT Ob) (v:V):Option (List Int):=match rowC H 1 v with | some ns=>lits ns | none=>none
theorem rdU_ok {w0 w:World} {E:Env} {H:PT Ob} (hw:Wr w0 E H.get w) {v:V} {l:List Int} {u:Value} (h:rdU H v=some l) (hv:VR E v u):∃ A c,u = .slice A l.length c∧KC (Kd.int .u64) A c l w:=by
 unfold rdU at h
 split at h <;> first | (cases h; done) | skip
 rename_i ns hns
 obtain ⟨A,len,c,vs,hu,h1,h2,h3⟩:=rowC_ok hw hns hv
 obtain ⟨e1,e2⟩:=lits_ok h h1
 have hl:l.length=len:=by rw [e2,← h1.len,h2,Nat.mul_one]
 exact ⟨A,c,by rw [hl]; exact hu,h3 rfl hl ((reps_flat (flat_int .u64)).2 e1)⟩
noncomputable def ents:List V→Option (List S53)
 | []=>some []
 | .int .u64 (.lit a) :: .int .u64 (.lit b) :: .int .u64 (.lit c) :: r=>match ents r with | some l=>some (⟨a,b,c⟩ :: l) | none=>none
 | _=>none
theorem ents_ok {E:Env}:∀ {ns:List V} {l:List S53} {vs:List Value},ents ns=some l→VRs E ns vs→vs=l.flatMap enc53∧l.length * 3=ns.length
 | [],l,vs,h,hv=>by cases h; exact ⟨hv,rfl⟩
 | [_],l,vs,h,hv=>by unfold ents at h; split at h <;> first | (cases h; done) | (rename_i q; cases q)
 | [_,_],l,vs,h,hv=>by unfold ents at h; split at h <;> first | (cases h; done) | (rename_i q; cases q)
 | v1 :: v2 :: v3 :: r,l,vs,h,hv=>by
  unfold ents at h
  split at h <;> first | (cases h; done) | skip
  ·rename_i q; cases q
  ·rename_i a b c r' q
   cases q
   split at h <;> first | (cases h; done) | skip
   rename_i l' hl
   cases h
   obtain ⟨x,xs,h1,h2,rfl⟩:=hv
   obtain ⟨x2,xs2,h3,h4,rfl⟩:=h2
   obtain ⟨x3,xs3,h5,h6,rfl⟩:=h4
   obtain ⟨e,e2⟩:=ents_ok hl h6
   refine ⟨?_,by simp only [List.length_cons]; omega⟩
   rw [List.flatMap_cons,← e]
   rw [show x = .int .u64 a from h1,show x2 = .int .u64 b from h3,show x3 = .int .u64 c from h5]
   rfl
noncomputable def rdE (H:PT Ob) (v:V):Option (List S53):=match rowC H 3 v with | some ns=>ents ns | none=>none
theorem rdE_ok {w0 w:World} {E:Env} {H:PT Ob} (hw:Wr w0 E H.get w) {v:V} {l:List S53} {u:Value} (h:rdE H v=some l) (hv:VR E v u):∃ A c,u = .slice A l.length c∧KC k53 A c l w:=by
 unfold rdE at h
 split at h <;> first | (cases h; done) | skip
 rename_i ns hns
 obtain ⟨A,len,c,vs,hu,h1,h2,h3⟩:=rowC_ok hw hns hv
 obtain ⟨e1,e2⟩:=ents_ok h h1
 have hl:l.length=len:=by have:=h1.len; omega
 exact ⟨A,c,by rw [hl]; exact hu,h3 rfl hl ((reps_flat flat53).2 e1)⟩
noncomputable def rowsE (H:PT Ob):List V→Option (List (List S53))
 | []=>some []
 | v :: r=>match rdE H v,rowsE H r with | some l,some ll=>some (l :: ll) | _,_=>none
theorem rowsE_ok {w0 w:World} {E:Env} {H:PT Ob} (hw:Wr w0 E H.get w):∀ {ns:List V} {ll:List (List S53)} {vs:List Value},rowsE H ns=some ll→VRs E ns vs→Reps ((Kd.slice 53 k53).K w) 1 ll vs∧ll.length=ns.length
 | [],ll,vs,h,hv=>by cases h; rw [show vs=[] from hv]; exact ⟨Reps.none _ _,rfl⟩
 | v :: r,ll,vs,h,hv=>by
  unfold rowsE at h
  split at h <;> first | (cases h; done) | skip
  rename_i l ll' hl hll
  cases h
  obtain ⟨x,xs,h1,h2,rfl⟩:=hv
  obtain ⟨A,c,rfl,hk⟩:=rdE_ok hw hl h1
  obtain ⟨e1,e2⟩:=rowsE_ok hw hll h2
  exact ⟨reps1_cons (kslice_mk hk) e1,by simp [e2]⟩
noncomputable def rdEE (H:PT Ob) (v:V):Option (List (List S53)):=match rowC H 1 v with | some ns=>rowsE H ns | none=>none
theorem rdEE_ok {w0 w:World} {E:Env} {H:PT Ob} (hw:Wr w0 E H.get w) {v:V} {ll:List (List S53)} {u:Value} (h:rdEE H v=some ll) (hv:VR E v u):∃ A c,u = .slice A ll.length c∧KC (Kd.slice 53 k53) A c ll w:=by
 unfold rdEE at h
 split at h <;> first | (cases h; done) | skip
 rename_i ns hns
 obtain ⟨A,len,c,vs,hu,h1,h2,h3⟩:=rowC_ok hw hns hv
 obtain ⟨e1,e2⟩:=rowsE_ok hw h h1
 have hl:ll.length=len:=by have:=h1.len; omega
 exact ⟨A,c,by rw [hl]; exact hu,h3 rfl hl e1⟩
noncomputable def litV:List Int→List V
 | []=>[]
 | n :: r => .int .u64 (.lit n) :: litV r
theorem litV_ok (E:Env):∀ l:List Int,VRs E (litV l) (l.map (Value.int .u64))
 | []=>rfl
 | n :: r=>⟨_,_,rfl,litV_ok E r,rfl⟩
noncomputable def told (m:Mm) (l:List Int):Mm:=m.new ⟨litV l,41,some (.u m.c 0,1)⟩
theorem told_ok {w0 w w':World} {E:Env} {m:Mm} {l:List Int} {ro:Ro} (hw:Wr w0 E m.H.get w) (hf:Fresh E m.c (told m l).c) (hl:l≠[]) (ho:ORow 1 (fun x=>[Value.int .u64 x]) ro l) (ht:Tri w ⟨[],[]⟩ w' [OE 41 ro]) :
  ∃ E',Nx w0 E m.H.get m.c w E' (told m l).H.get (told m l).c (told m l).wl w'∧VR E' (.sl m.c 0 l.length (.u m.c 0)) (.slice (OA ro) l.length (OC ro)):=by
 rcases ro with _ | ⟨g,cap,cur⟩
 ·exact absurd ho hl
 obtain ⟨o1,o2,o3,o4⟩:=ho
 obtain ⟨H,c,wl,pc⟩:=m
 have hh:w'.heap[g]?=some (.cells cur 41 (0,0)):=ht.at_ g _ (List.mem_singleton_self _)
 have hg:w.heap.size≤g:=(ht.own g (by simp [ids,OE,Ent.id?])).resolve_left (by simp)
 obtain ⟨f1,f2⟩:=hf c (Nat.le_refl _) (Nat.lt_succ_self _)
 refine ⟨E.new c g (some cap),nx_new hw f1 f2 ht.toAgree hg hh ?_ wl,g,cap,new_ν E c g _,⟨cap,new_κ E c g _,rfl⟩,o1,rfl⟩
 refine ⟨l.map (Value.int .u64),cur,cap,litV_ok _ l,⟨cap,new_κ E c g _,rfl⟩,rfl,?_,o3,o2⟩
 rw [List.length_map,← Nat.mul_one l.length,o4]
 exact flat_map_int
theorem agg7 {E:Env} {T S C H K Q L:Int} {u:Value} (h:VR E (.agg [.int .i64 (.lit T),.int .i64 (.lit S),.int .i64 (.lit C),.int .i64 (.lit H),.int .i64 (.lit K),.int .i64 (.lit Q),.int .i64 (.lit L)]) u):u = .agg #[.int .i64 T,.int .i64 S,.int .i64 C,.int .i64 H,.int .i64 K,.int .i64 Q,.int .i64 L]:=by
 obtain ⟨us,hus,rfl⟩:=h
 obtain ⟨x1,r1,e1,hus,rfl⟩:=hus
 obtain ⟨x2,r2,e2,hus,rfl⟩:=hus
 obtain ⟨x3,r3,e3,hus,rfl⟩:=hus
 obtain ⟨x4,r4,e4,hus,rfl⟩:=hus
 obtain ⟨x5,r5,e5,hus,rfl⟩:=hus
 obtain ⟨x6,r6,e6,hus,rfl⟩:=hus
 obtain ⟨x7,r7,e7,hus,rfl⟩:=hus
 rw [show r7=[] from hus,show x1 = .int .i64 T from e1,show x2 = .int .i64 S from e2,show x3 = .int .i64 C from e3,show x4 = .int .i64 H from e4,show x5 = .int .i64 K from e5,show x6 = .int .i64 Q from e6,show x7 = .int .i64 L from e7]
noncomputable def oraP (g:Nat) (xs:List V) (m:Mm):Option Lv:=match Nat.beq g 22 with
 | true=>match xs with
  | [.agg [.int .i64 (.lit T),.int .i64 (.lit S),.int .i64 (.lit C),.int .i64 (.lit H),.int .i64 (.lit K),.int .i64 (.lit Q),.int .i64 (.lit L)],s,.int .i64 (.lit lev)]=>match rdU m.H s with
   | some l=>match shape_Level.f 3000 T S C H K Q L l lev with
    | some (x :: r)=>some [(.val (.sl m.c 0 (List.length (x :: r)) (.u m.c 0)),⟨.nil,told m (x :: r)⟩)]
    | _=>none
   | none=>none
  | _=>none
 | false=>match Nat.beq g 8 with
  | true=>match xs with
   | [.agg [.int .i64 (.lit T),.int .i64 (.lit S),.int .i64 (.lit C),.int .i64 (.lit H),.int .i64 (.lit K),.int .i64 (.lit Q),.int .i64 (.lit L)],s,ls]=>match rdU m.H s,rdEE m.H ls with
    | some l,some ll=>match shape_Rest.f 3000 T S C H K Q L l ll with
     | some false=>some [(.val (.tup [.nsl,.bool (.bl false)]),⟨.nil,m⟩)]
     | some true=>match pack_Cells.f 3000 T S C H K Q L l ll with
      | some (x :: r,true)=>some [(.val (.tup [.sl m.c 0 (List.length (x :: r)) (.u m.c 0),.bool (.bl true)]),⟨.nil,told m (x :: r)⟩)]
      | _=>none
     | none=>none
    | _,_=>none
   | _=>none
  | false=>none
theorem has22:∃ fn,Tryz.prog.funcs[22]?=some fn∧fn.body.isNone=false:=⟨_,Tryz.func22,rfl⟩
theorem has8:∃ fn,Tryz.prog.funcs[8]?=some fn∧fn.body.isNone=false:=⟨_,Tryz.func8,rfl⟩
theorem oraP_ok (ρ:Rho) (nv:Nat→Nat):OraOK Tryz.prog ⟨oraP,nv⟩ ρ:=by
 intro g xs m ls h0 hp
 have h:oraP g xs m=some ls:=h0
 clear h0
 unfold oraP at h
 split at h
 ·rename_i hg
  obtain rfl:=Nat.eq_of_beq_eq_true hg
  split at h <;> first | (cases h; done) | skip
  rename_i T S C H K Q L s lev
  split at h <;> first | (cases h; done) | skip
  rename_i l hl
  split at h <;> first | (cases h; done) | skip
  rename_i x r hr
  cases h
  refine Good.one hp (Sta.new m _) ⟨_,rfl,has22,fun w0 E us w Kk hρ hx hw hf hK=>?_⟩
  obtain ⟨u1,us1,h1,hx,rfl⟩:=hx
  obtain ⟨u2,us2,h2,hx,rfl⟩:=hx
  obtain ⟨u3,us3,h3,hx,rfl⟩:=hx
  obtain rfl:=agg7 h1
  obtain ⟨A,c,rfl,hk⟩:=rdU_ok hw hl h2
  obtain rfl:us3=[]:=hx
  obtain rfl:u3 = .int .i64 lev:=h3
  refine Calls.mono (calls_of_con (R:=fun v L'=>∃ ro,ORow 1 (fun x=>[Value.int .u64 x]) ro (x :: r)∧v = .slice (OA ro) (x :: r).length (OC ro)∧L'=[OE 41 ro]) (shape_Level_own 3000 T S C H K Q L A c l lev (x :: r) hr w []) ((Tri.nil w).know (C_stab hk.1 hk.2)) (fun ro ho=>⟨ro,ho,rfl,rfl⟩)) ?_
  rintro e w' ⟨v,L',rfl,⟨ro,ho,rfl,rfl⟩,ht⟩
  obtain ⟨E',hn,hv⟩:=told_ok hw hf (by simp) ho ht
  exact hK E' _ w' hn hv
 ·split at h <;> first | (cases h; done) | skip
  rename_i hg
  obtain rfl:=Nat.eq_of_beq_eq_true hg
  split at h <;> first | (cases h; done) | skip
  rename_i T S C H K Q L s ls'
  split at h <;> first | (cases h; done) | skip
  rename_i l ll hl hll
  split at h <;> first | (cases h; done) | skip
  ·rename_i hR
   cases h
   refine Good.one hp (Sta.refl m) ⟨_,rfl,has8,fun w0 E us w Kk hρ hx hw hf hK=>?_⟩
   obtain ⟨u1,us1,h1,hx,rfl⟩:=hx
   obtain ⟨u2,us2,h2,hx,rfl⟩:=hx
   obtain ⟨u3,us3,h3,hx,rfl⟩:=hx
   obtain rfl:=agg7 h1
   obtain ⟨A,c,rfl,hk⟩:=rdU_ok hw hl h2
   obtain ⟨B,d,rfl,hk2⟩:=rdEE_ok hw hll h3
   obtain rfl:us3=[]:=hx
   refine Calls.mono (calls_of_con (R:=fun v L'=>v = .tuple #[.slice none 0 0,.bool false]∧L'=[]) (pack_Cells_no 3000 T S C H K Q L A c l B d ll hR w []) (((Tri.nil w).know (C_stab hk2.1 hk2.2)).know (C_stab hk.1 hk.2)) ⟨rfl,rfl⟩) ?_
   rintro e w' ⟨v,L',rfl,⟨rfl,rfl⟩,ht⟩
   refine hK E _ w' ?_ ⟨_,⟨_,_,rfl,⟨_,_,rfl,rfl,rfl⟩,rfl⟩,rfl⟩
   exact nx_below hw ht.below _ _
  ·rename_i hR
   split at h <;> first | (cases h; done) | skip
   rename_i x r hr
   cases h
   refine Good.one hp (Sta.new m _) ⟨_,rfl,has8,fun w0 E us w Kk hρ hx hw hf hK=>?_⟩
   obtain ⟨u1,us1,h1,hx,rfl⟩:=hx
   obtain ⟨u2,us2,h2,hx,rfl⟩:=hx
   obtain ⟨u3,us3,h3,hx,rfl⟩:=hx
   obtain rfl:=agg7 h1
   obtain ⟨A,c,rfl,hk⟩:=rdU_ok hw hl h2
   obtain ⟨B,d,rfl,hk2⟩:=rdEE_ok hw hll h3
   obtain rfl:us3=[]:=hx
   refine Calls.mono (calls_of_con (R:=fun v L'=>∃ ro,ORow 1 (fun x=>[Value.int .u64 x]) ro (x :: r)∧v = .tuple #[.slice (OA ro) (x :: r).length (OC ro),.bool true]∧L'=[OE 41 ro]) (pack_Cells_own 3000 T S C H K Q L A c l B d ll (x :: r) true hr w []) (((Tri.nil w).know (C_stab hk2.1 hk2.2)).know (C_stab hk.1 hk.2)) (fun ro ho=>⟨ro,ho,rfl,rfl⟩)) ?_
   rintro e w' ⟨v,L',rfl,⟨ro,ho,rfl,rfl⟩,ht⟩
   obtain ⟨E',hn,hv⟩:=told_ok hw hf (by simp) ho ht
   exact hK E' _ w' hn ⟨_,⟨_,_,hv,⟨_,_,rfl,rfl,rfl⟩,rfl⟩,rfl⟩
end Go.Run
namespace Go.Run
def nv:PT Nat:=(.n (.n (.n (.n (.n (.n (.n (.n .e (some 31) .e) (some 63) .e) (some 7) (.n .e (some 7) .e)) (some 127) (.n (.n (.n .e (some 1) .e) (some 31) .e) (some 7) (.n .e (some 7) .e))) (some 511) (.n (.n (.n (.n .e (some 1) .e) (some 3940651552999423) .e) (some 8191) (.n .e (some 7) .e)) (some 30786375913471) (.n (.n (.n .e (some 1) .e) (some 7) .e) (some 15) (.n .e (some 31) .e)))) (some 8191) (.n (.n (.n (.n (.n .e (some 1) .e) (some 7) .e) (some 127) (.n .e (some 7) .e)) (some 7) (.n (.n (.n .e (some 1) .e) (some 402657279) .e) (some 31) (.n .e (some 7) .e))) (some 524287) (.n (.n (.n (.n .e (some 1) .e) (some 31) .e) (some 127) (.n .e (some 7) .e)) (some 7) (.n (.n .e (some 511) .e) (some 7) (.n .e (some 15) .e))))) (some 0) (.n (.n (.n (.n (.n (.n .e (some 1) .e) (some 7) .e) (some 255) (.n .e (some 7) .e)) (some 7) (.n (.n (.n .e (some 3) .e) (some 7) .e) (some 7) (.n .e (some 7) .e))) (some 131071) (.n (.n (.n (.n .e (some 1) .e) (some 63) .e) (some 63) (.n .e (some 31) .e)) (some 786687) (.n (.n (.n .e (some 1) .e) (some 31) .e) (some 7) (.n .e (some 15) .e)))) (some 18173039021862971305221720639537151) (.n (.n (.n (.n (.n .e (some 1) .e) (some 7) .e) (some 255) (.n .e (some 7) .e)) (some 127) (.n (.n (.n .e (some 7) .e) (some 15) .e) (some 7) (.n .e (some 7) .e))) (some 2047) (.n (.n (.n (.n .e (some 1) .e) (some 127) .e) (some 4095) (.n .e (some 255) .e)) (some 31) (.n (.n .e (some 63) .e) (some 31) (.n .e (some 7) .e)))))) (some 0) (.n (.n (.n (.n (.n (.n (.n .e (some 1023) .e) (some 31) .e) (some 31) (.n .e (some 7) .e)) (some 2047) (.n (.n (.n .e (some 1) .e) (some 31) .e) (some 255) (.n .e (some 3147775) .e))) (some 7429453624441914714423820287) (.n (.n (.n (.n .e (some 1) .e) (some 3145855) .e) (some 4095) (.n .e (some 447) .e)) (some 460799) (.n (.n (.n .e (some 1) .e) (some 7) .e) (some 255) (.n .e (some 7) .e)))) (some 16383) (.n (.n (.n (.n (.n .e (some 1) .e) (some 63) .e) (some 127) (.n .e (some 63) .e)) (some 4095) (.n (.n (.n .e (some 1) .e) (some 127) .e) (some 7) (.n .e (some 7) .e))) (some 63) (.n (.n (.n (.n .e (some 1) .e) (some 7) .e) (some 8191) (.n .e (some 7) .e)) (some 234885119) (.n (.n .e (some 16383) .e) (some 31) (.n .e (some 447) .e))))) (some 0) (.n (.n (.n (.n (.n (.n .e (some 1) .e) (some 7) .e) (some 8191) (.n .e (some 63) .e)) (some 31) (.n (.n (.n .e (some 1) .e) (some 31) .e) (some 7) (.n .e (some 127) .e))) (some 63) (.n (.n (.n (.n .e (some 1) .e) (some 12583039) .e) (some 511) (.n .e (some 7) .e)) (some 4332799692912683476420919295) (.n (.n .e (some 7) .e) (some 511) (.n .e (some 127) .e)))) (some 1023) (.n (.n (.n (.n (.n .e (some 1) .e) (some 15) .e) (some 511) (.n .e (some 31) .e)) (some 2147485695) (.n (.n (.n .e (some 1) .e) (some 127) .e) (some 63) (.n .e (some 31) .e))) (some 7) (.n (.n (.n (.n .e (some 1) .e) (some 127) .e) (some 511) (.n .e (some 3) .e)) (some 7) (.n (.n .e (some 7) .e) (some 7) (.n .e (some 1023) .e)))))))
noncomputable def nvOf (g:Nat):Nat:=match nv.get g with | some k=>k | none=>0
end Go.Run
namespace Go.Eng
open Go.Proofs Go.RowKit
set_option maxHeartbeats 4000000 in
theorem a_alive:Run.isT (Run.go Tryz.prog ⟨Run.oraP,Run.nvOf⟩ 1000000 (.call 6 [] ⟨.e,0,[],[]⟩))=true:=by kernel_rfl
theorem zfollows:Tryz.prog.follows .mixedOrders=true:=by kernel_rfl
theorem znames : (Tryz.prog.funcs.toList.all fun fn => !(fn.name == "runtime.NumGoroutine")) = true := by kernel_rfl
theorem alive_con (w0:World) (Hs:List Nat):Con Tryz.prog 6 #[] w0 Hs [] (fun X=>X (.bool true) []):=con_of_calls (fun w=>Run.run_true zfollows znames (Run.oraP_ok _ _) 1000000 6 a_alive w) w0 Hs
end Go.Eng
namespace Go.Eng
open Go.Proofs Go.RowKit Go.Proofs.YtgbcnokeaaabfaaGreatW.PrintWords
set_option linter.unusedVariables false
set_option linter.unusedSimpArgs false
def stepstonelaw22_PackCells.f (k:Nat) (p0:Int) (p1:Int) (p2:Int) (p3:Int) (p4:Int) (p5:Int) (p6:Int) (l1:List Int) (l2_0:List S47) (a2_1:Int):Option Bool:=((if (p2:Int) > 20 then some true else (if ((l1.length:Int):Int) > 400 then some true else (if ((l2_0.length:Int):Int) > 40 then some true else (if (a2_1:Int)<0 then some true else some (decide ((a2_1:Int) > (l2_0.length:Int))))))):Option Bool).bind fun j32_=>(if j32_=true then some true else (if ([]:List Int).length+l1.length<17592186044416 then (stepstonelaw06_News.f k l2_0).bind fun t49_=>(if 0≤(a2_1:Int) then (if (a2_1:Int)≤(t49_.length:Int) then (pack_Cells.f k p0 p1 p2 p3 p4 p5 p6 (([]:List Int) ++ l1) ([(t49_.take (Int.toNat a2_1)),(t49_.drop (Int.toNat a2_1))]:List (List S53))).bind fun (t74_,t75_)=>(sr22_Cells.f k p0 p1 p2 p3 p4 p5 p6 l1 l2_0).bind fun (t88_,t89_)=>((sr03_Same.f k t74_ t88_).bind fun t103_=>(if t103_=true then (if (t75_ == t89_)=true then (sr03_Same.f k (([]:List Int) ++ l1) l1).bind fun t108_=>some t108_ else some false) else some false):Option Bool).bind fun j101_=>some j101_ else none) else none) else none))
set_option maxRecDepth 100000 in
set_option maxHeartbeats 4000000 in
theorem stepstonelaw22_PackCells_con (k:Nat) (p0:Int) (p1:Int) (p2:Int) (p3:Int) (p4:Int) (p5:Int) (p6:Int) (A1:Option Addr) (c1:Nat) (l1:List Int) (A2_0:Option Addr) (c2_0:Nat) (l2_0:List S47) (a2_1:Int) (r0:Bool) (h:stepstonelaw22_PackCells.f k p0 p1 p2 p3 p4 p5 p6 l1 l2_0 a2_1=some r0) (w0:World) (Hs:List Nat):Con Tryz.prog 3 #[.agg (cfA p0 p1 p2 p3 p4 p5 p6),.slice A1 l1.length c1,.agg #[.slice A2_0 l2_0.length c2_0,.I a2_1]] w0 Hs [.f (KU A1 c1 l1),.f (KC k47 A2_0 c2_0 l2_0)] (fun X=>X (.bool r0) []):=by
 refine con_enter (c:=bodyOf Tryz.f3) Tryz.func3 rfl (m:=86) rfl rfl rfl ?_
 intro X hX _
 have H:=h
 unfold stepstonelaw22_PackCells.f at H
 clear h
 refine c_seq rfl ?_
 refine r_ordb (l:=[0,1,2]) rfl (by kernel_rfl) ?_
 refine s_e rfl rfl (e_box rfl rfl rfl rfl) ?_
 intro b3_
 refine s_e rfl rfl (e_box rfl rfl rfl rfl) ?_
 intro b4_
 refine sA rfl ?_
 refine sE rfl ?_
 obtain ⟨j32_,e33_,H⟩:=bind_s H
 refine c_join (β:=Unit) (fun _=>True) (fun _=>[(1,.slice A1 l1.length c1),(3,.P b3_),(5,.P b4_),(6,.bool false),(39,.bool j32_)]) (fun _=>[.b b4_ (.cells #[.slice A2_0 l2_0.length c2_0,.I a2_1] 27 (0,0)),.b b3_ (.cells (cfA p0 p1 p2 p3 p4 p5 p6) 23 (0,0)),.f (KU A1 c1 l1),.f (KC k47 A2_0 c2_0 l2_0)]) rfl (fun _ _=>?_) (fun J_=>?_)
 rcases Bool.eq_false_or_eq_true j32_ with h34_ | h34_
 subst h34_
 replace H:=ite_y rfl H
 refine c_cond1 rfl rfl ?_
 refine c_seq rfl ?_
 refine r_ordb (l:=[0,1]) rfl (by kernel_rfl) ?_
 refine s_e rfl rfl (eC [] #[] Tryz.func6 (by decide) rfl (fun w ht=>alive_con w _)) ?_
 refine sA rfl ?_
 refine sQ ?_
 refine c_ret rfl ?_
 refine q_then_ret ?_
 have e_:=Option.some.inj H
 subst e_
 exact q_ret (vs:=[.bool true]) rfl (.tmp rfl .nil) [] rfl (by decide) (hX)
 subst h34_
 replace H:=ite_n (by decide) H
 refine c_cond0 rfl rfl ?_
 refine kQ rfl ?_
 refine c_seq rfl ?_
 refine r_ordb (l:=[0,1,2,3]) rfl (by kernel_rfl) ?_
 refine s_e rfl rfl (e_bslice0 rfl rfl rfl Tryz.underlying24 SZ41) ?_
 intro b40_
 refine sM rfl ?_
 obtain ⟨n41_,H⟩:=ite_no H
 refine s_e rfl rfl (e_appOK (flat_int .u64) (xs:=([]:List Int)) (ro:=(some (b40_,0,#[]))) (l:=l1) (z:=(.U 0)) (m:=1) (bytes:=8) (i:=3) (j:=0) rfl rfl rfl rfl rfl rfl Tryz.underlying24 (by kernel_rfl) rfl rfl rfl rfl orow_empty rfl rfl rfl (by first | omega | (simp only [List.length_nil,Nat.zero_add]; omega)) (by simp only [maxLen]; first | omega | (simp only [List.length_nil,Nat.zero_add]; omega))) ?_
 intro ro42_ hr43_ sm44_
 refine sA rfl ?_
 refine sE rfl ?_
 refine r_ordb (l:=[0,1,2,3]) rfl (by kernel_rfl) ?_
 refine sV rfl (vF Tryz.underlying27 SZ25 rfl) ?_
 refine sV rfl (vL 1 Tryz.underlying25 rfl) ?_
 obtain ⟨t49_,e50_,H⟩:=bind_s H
 refine s_e rfl rfl (eC [4] #[.slice A2_0 l2_0.length c2_0] Tryz.func7 (by decide) rfl (fun w ht=>stepstonelaw06_News_con _ A2_0 c2_0 l2_0 t49_ e50_ w _)) ?_
 intro A51_ c52_
 refine sA rfl ?_
 refine sE rfl ?_
 refine c_giveO (flat_int .u64) hr43_ [1,0,2,3,4,5] rfl (by decide) rfl ?_
 obtain ⟨n70_,H⟩:=ite_no H
 obtain ⟨n71_,H⟩:=ite_no H
 obtain ⟨⟨t74_,t75_⟩,e76_,H⟩:=bind_s H
 refine r_any [.f (KU (OA ro42_) (OC ro42_) (([]:List Int) ++ l1)),.f (KC k53 A51_ c52_ t49_),.b b4_ (.cells #[.slice A2_0 l2_0.length c2_0,.I a2_1] 27 (0,0)),.b b3_ (.cells (cfA p0 p1 p2 p3 p4 p5 p6) 23 (0,0)),.f (KU A1 c1 l1),.f (KC k47 A2_0 c2_0 l2_0)] (by kernel_rfl) rfl (by kernel_rfl) (mem_pick (idx:=[0,1,2,3,4,5]) rfl) ?_
 refine aV 0 rfl (by kernel_rfl) (vLA (lfA p0 p1 p2 p3 p4 p5 p6) 3 Tryz.underlying23 SZ23 rfl) ?_
 refine aV 1 rfl (by kernel_rfl) (vM rfl) ?_
 refine aV 2 rfl (by kernel_rfl) (vM rfl) ?_
 refine aV 3 rfl (by kernel_rfl) (vF Tryz.underlying27 SZ3 rfl) ?_
 refine aV 4 rfl (by kernel_rfl) (vL 2 Tryz.underlying3 rfl) ?_
 refine aV 6 rfl (by kernel_rfl) (vM rfl) ?_
 refine aV 7 rfl (by kernel_rfl) (vF Tryz.underlying27 SZ3 rfl) ?_
 refine aV 8 rfl (by kernel_rfl) (vL 2 Tryz.underlying3 rfl) ?_
 refine a_2 (i:=5) (j:=9) (by kernel_rfl) ?_ ?_
 refine i_know 1 rfl (fun w h=>h.2) (fun q79_=>?_)
 refine i_weak 1 rfl (fun w h=>KC_take (Int.toNat a2_1) (by omega) h) ?_
 refine i_v rfl rfl rfl rfl (OpV.cast (v := .slice A51_ (t49_.take (Int.toNat a2_1)).length c52_) (v_slHi rfl Tryz.underlying29 SZ53 rfl rfl n70_ (Int.le_trans n71_ (Int.ofNat_le.2 q79_))) (by rw [List.length_take,Nat.min_eq_left (by omega)])) ?_
 refine a_1 (i:=9) (by kernel_rfl) ?_
 refine i_weak 2 rfl (fun w h=>KC_drop (Int.toNat a2_1) 3 rfl (by omega) h) ?_
 refine i_v rfl rfl rfl rfl (OpV.cast (v := .slice (dropA A51_ c52_ (Int.toNat a2_1) 3) (t49_.drop (Int.toNat a2_1)).length (c52_ - (Int.toNat a2_1))) (v_slLo rfl Tryz.underlying29 SZ53 rfl rfl n70_ n71_) (by rw [List.length_drop])) ?_
 refine a_1 (i:=10) (by kernel_rfl) ?_
 refine i_e rfl rfl (e_bslice #[.slice A51_ ((t49_.take (Int.toNat a2_1)).length) c52_,.slice (dropA A51_ c52_ (Int.toNat a2_1) 3) ((t49_.drop (Int.toNat a2_1)).length) (c52_ - (Int.toNat a2_1))] (.slice none 0 0) rfl rfl rfl Tryz.underlying61 SZ29 ZR29 (by decide) rfl (by kernel_rfl)) ?_
 intro b80_
 refine ⟨(mem_pick (idx:=[3,4,5,6,7,8]) rfl),?_⟩
 refine a_1 (i:=11) (by kernel_rfl) ?_
 refine i_give [0,1,2,3,4,5,6,7,8] rfl (by decide) (by simp [ids,Ent.id?]) (fun w_ h_=>h_) ?_
 refine i_both 0 2 rfl rfl ?_
 refine i_both 0 2 rfl rfl ?_
 refine i_weak 0 rfl (fun w_ h_=>KC_ofReps0 (d:=(Kd.slice 53 k53)) (xs:=([(t49_.take (Int.toNat a2_1)),(t49_.drop (Int.toNat a2_1))]:List (List S53))) (cap:=2) (h_.1.1) (reps1_cons (kslice_mk h_.1.2) (reps1_cons (kslice_mk h_.2) (Reps.none _ _))) (by rfl) (by simp) (by decide)) ?_
 refine i_e rfl rfl (eC [6,0] #[.agg (cfA p0 p1 p2 p3 p4 p5 p6),.slice (OA ro42_) ((([]:List Int) ++ l1).length) (OC ro42_),.slice (some ⟨b80_,0,none⟩) 2 2] Tryz.func8 (by decide) rfl (fun w ht=>pack_Cells_con _ p0 p1 p2 p3 p4 p5 p6 (OA ro42_) (OC ro42_) (([]:List Int) ++ l1) (some ⟨b80_,0,none⟩) 2 ([(t49_.take (Int.toNat a2_1)),(t49_.drop (Int.toNat a2_1))]:List (List S53)) t74_ t75_ e76_ w _)) ?_
 intro A81_ c82_
 refine ⟨(mem_pick (idx:=[7,8,9,10,11,12]) rfl),?_⟩
 refine aV 12 rfl (by kernel_rfl) (vM rfl) ?_
 refine aV 13 rfl (by kernel_rfl) (v_ext rfl rfl rfl) ?_
 refine aV 14 rfl (by kernel_rfl) (v_ext rfl rfl rfl) ?_
 refine aV 15 rfl (by kernel_rfl) (vA rfl) ?_
 refine aV 16 rfl (by kernel_rfl) (vA rfl) ?_
 refine a_end (by kernel_rfl) ?_
 refine q_seq ?_
 refine c_seq rfl ?_
 refine r_ordb (l:=[0,1,2,3,4,5,6,7,8,9]) rfl (by kernel_rfl) ?_
 refine sV rfl (vLA (lfA p0 p1 p2 p3 p4 p5 p6) 10 Tryz.underlying23 SZ23 rfl) ?_
 refine sM rfl ?_
 refine sV rfl (vF Tryz.underlying27 SZ25 rfl) ?_
 refine sV rfl (vL 9 Tryz.underlying25 rfl) ?_
 obtain ⟨⟨t88_,t89_⟩,e90_,H⟩:=bind_s H
 refine s_e rfl rfl (eC [11,12] #[.agg (cfA p0 p1 p2 p3 p4 p5 p6),.slice A1 l1.length c1,.slice A2_0 l2_0.length c2_0] Tryz.func9 (by decide) rfl (fun w ht=>sr22_Cells_con _ p0 p1 p2 p3 p4 p5 p6 A1 c1 l1 A2_0 c2_0 l2_0 t88_ t89_ e90_ w _)) ?_
 intro A91_ c92_
 refine sM rfl ?_
 refine sV rfl (v_ext rfl rfl rfl) ?_
 refine sV rfl (v_ext rfl rfl rfl) ?_
 refine sA rfl ?_
 refine sA rfl ?_
 refine sQ ?_
 obtain ⟨j101_,e102_,H⟩:=bind_s H
 refine c_join (β:=Unit) (fun _=>True) (fun _=>[(6,.bool j101_)]) (fun _=>[.f (KU A91_ c92_ t88_),.f (KU A81_ c82_ t74_),.f (KC (Kd.slice 53 k53) (some ⟨b80_,0,none⟩) 2 ([(t49_.take (Int.toNat a2_1)),(t49_.drop (Int.toNat a2_1))]:List (List S53))),.f (fun w_=>(fun w_=>(fun w_=>w_.heap[b80_]?=some (.cells #[.slice A51_ ((t49_.take (Int.toNat a2_1)).length) c52_,.slice (dropA A51_ c52_ (Int.toNat a2_1) 3) ((t49_.drop (Int.toNat a2_1)).length) (c52_ - (Int.toNat a2_1))] 29 (0,0))) w_∧(KC k53 A51_ c52_ (t49_.take (Int.toNat a2_1))) w_) w_∧(KC k53 (dropA A51_ c52_ (Int.toNat a2_1) 3) (c52_ - (Int.toNat a2_1)) (t49_.drop (Int.toNat a2_1))) w_),.f (fun w_=>(fun w_=>w_.heap[b80_]?=some (.cells #[.slice A51_ ((t49_.take (Int.toNat a2_1)).length) c52_,.slice (dropA A51_ c52_ (Int.toNat a2_1) 3) ((t49_.drop (Int.toNat a2_1)).length) (c52_ - (Int.toNat a2_1))] 29 (0,0))) w_∧(KC k53 A51_ c52_ (t49_.take (Int.toNat a2_1))) w_),.f (fun w_=>w_.heap[b80_]?=some (.cells #[.slice A51_ ((t49_.take (Int.toNat a2_1)).length) c52_,.slice (dropA A51_ c52_ (Int.toNat a2_1) 3) ((t49_.drop (Int.toNat a2_1)).length) (c52_ - (Int.toNat a2_1))] 29 (0,0))),.f (KC k53 (dropA A51_ c52_ (Int.toNat a2_1) 3) (c52_ - (Int.toNat a2_1)) (t49_.drop (Int.toNat a2_1))),.f (KC k53 A51_ c52_ (t49_.take (Int.toNat a2_1))),.f (KU (OA ro42_) (OC ro42_) (([]:List Int) ++ l1)),.f (KC k53 A51_ c52_ t49_),.b b4_ (.cells #[.slice A2_0 l2_0.length c2_0,.I a2_1] 27 (0,0)),.b b3_ (.cells (cfA p0 p1 p2 p3 p4 p5 p6) 23 (0,0)),.f (KU A1 c1 l1),.f (KC k47 A2_0 c2_0 l2_0)]) rfl (fun _ _=>?_) (fun J_=>?_)
 refine c_ret rfl ?_
 have e_:=Option.some.inj H
 subst e_
 exact q_ret (vs:=[.bool j101_]) rfl (.tmp rfl .nil) [] rfl (by decide) (hX)
 clear H
 have H:=e102_
 clear e102_
 refine r_ordb (l:=[0,1,2,3,4,5,6,7,8,9,10,11,12,13,14,15,16]) rfl (by kernel_rfl) ?_
 refine s_e rfl rfl (eC [] #[] Tryz.func6 (by decide) rfl (fun w ht=>alive_con w _)) ?_
 refine sM rfl ?_
 refine sG rfl (vM rfl) ?_
 refine sG rfl (vM rfl) ?_
 obtain ⟨t103_,e104_,H⟩:=bind_s H
 refine s_eg rfl rfl (eC [1,0] #[.slice A81_ t74_.length c82_,.slice A91_ t88_.length c92_] Tryz.func10 (by decide) rfl (fun w ht=>sr03_Same_con _ A81_ c82_ t74_ A91_ c92_ t88_ t103_ e104_ w _)) ?_
 refine sP rfl ?_
 refine sM rfl ?_
 rcases Bool.eq_false_or_eq_true t103_ with h105_ | h105_
 subst h105_
 replace H:=ite_y rfl H
 refine sG rfl (vM rfl) ?_
 refine sG rfl (vM rfl) ?_
 refine sG rfl (v_eqB rfl Tryz.underlying4 rfl rfl) ?_
 refine sP rfl ?_
 refine sM rfl ?_
 rcases Bool.eq_false_or_eq_true ((t75_ == t89_)) with h106_ | h106_
 replace H:=ite_y h106_ H
 refine s_splitv (d:=81) (t:=(t75_ == t89_)) rfl (fun _=>?_) (fun h107_=>absurd (h107_.symm.trans h106_) (by decide))
 refine sG rfl (vM rfl) ?_
 refine sG rfl (vM rfl) ?_
 obtain ⟨t108_,e109_,H⟩:=bind_s H
 refine s_eg rfl rfl (eC [8,12] #[.slice (OA ro42_) ((([]:List Int) ++ l1).length) (OC ro42_),.slice A1 l1.length c1] Tryz.func10 (by decide) rfl (fun w ht=>sr03_Same_con _ (OA ro42_) (OC ro42_) (([]:List Int) ++ l1) A1 c1 l1 t108_ e109_ w _)) ?_
 refine sP rfl ?_
 refine sA rfl ?_
 refine s_end ?_
 have hq_0:=Option.some.inj H
 subst hq_0
 exact q_seq (c_frame (subF_spec (by exact ⟨rfl,trivial⟩)) (c_take [0,1,2,3,4,5,6,7,8,9,10,11,12,13] rfl (by decide) (J_ () trivial)))
 replace H:=ite_n (not_t h106_) H
 refine s_splitv (d:=81) (t:=(t75_ == t89_)) rfl (fun h110_=>absurd (h110_.symm.trans h106_) (by decide)) (fun _=>?_)
 refine sN rfl ?_
 refine sN rfl ?_
 refine sN rfl ?_
 refine sP rfl ?_
 refine sA rfl ?_
 refine s_end ?_
 have hq_0:=Option.some.inj H
 subst hq_0
 exact q_seq (c_frame (subF_spec (by exact ⟨rfl,trivial⟩)) (c_take [0,1,2,3,4,5,6,7,8,9,10,11,12,13] rfl (by decide) (J_ () trivial)))
 subst h105_
 replace H:=ite_n (by decide) H
 refine sN rfl ?_
 refine sN rfl ?_
 refine sN rfl ?_
 refine sP rfl ?_
 refine sM rfl ?_
 refine sN rfl ?_
 refine sN rfl ?_
 refine sN rfl ?_
 refine sP rfl ?_
 refine sA rfl ?_
 refine s_end ?_
 have hq_0:=Option.some.inj H
 subst hq_0
 exact q_seq (c_frame (subF_spec (by exact ⟨rfl,trivial⟩)) (c_take [0,1,2,3,4,5,6,7,8,9,10,11,12,13] rfl (by decide) (J_ () trivial)))
 refine i_weak 1 rfl (fun w h=>KC_drop (Int.toNat a2_1) 3 rfl (by omega) h) ?_
 refine i_v rfl rfl rfl rfl (OpV.cast (v := .slice (dropA A51_ c52_ (Int.toNat a2_1) 3) (t49_.drop (Int.toNat a2_1)).length (c52_ - (Int.toNat a2_1))) (v_slLo rfl Tryz.underlying29 SZ53 rfl rfl n70_ n71_) (by rw [List.length_drop])) ?_
 refine a_1 (i:=5) (by kernel_rfl) ?_
 refine i_know 2 rfl (fun w h=>h.2) (fun q111_=>?_)
 refine i_weak 2 rfl (fun w h=>KC_take (Int.toNat a2_1) (by omega) h) ?_
 refine i_v rfl rfl rfl rfl (OpV.cast (v := .slice A51_ (t49_.take (Int.toNat a2_1)).length c52_) (v_slHi rfl Tryz.underlying29 SZ53 rfl rfl n70_ (Int.le_trans n71_ (Int.ofNat_le.2 q111_))) (by rw [List.length_take,Nat.min_eq_left (by omega)])) ?_
 refine a_1 (i:=10) (by kernel_rfl) ?_
 refine i_e rfl rfl (e_bslice #[.slice A51_ ((t49_.take (Int.toNat a2_1)).length) c52_,.slice (dropA A51_ c52_ (Int.toNat a2_1) 3) ((t49_.drop (Int.toNat a2_1)).length) (c52_ - (Int.toNat a2_1))] (.slice none 0 0) rfl rfl rfl Tryz.underlying61 SZ29 ZR29 (by decide) rfl (by kernel_rfl)) ?_
 intro b112_
 refine ⟨(mem_pick (idx:=[3,4,5,6,7,8]) rfl),?_⟩
 refine a_1 (i:=11) (by kernel_rfl) ?_
 refine i_give [0,1,2,3,4,5,6,7,8] rfl (by decide) (by simp [ids,Ent.id?]) (fun w_ h_=>h_) ?_
 refine i_both 0 1 rfl rfl ?_
 refine i_both 0 3 rfl rfl ?_
 refine i_weak 0 rfl (fun w_ h_=>KC_ofReps0 (d:=(Kd.slice 53 k53)) (xs:=([(t49_.take (Int.toNat a2_1)),(t49_.drop (Int.toNat a2_1))]:List (List S53))) (cap:=2) (h_.1.1) (reps1_cons (kslice_mk h_.1.2) (reps1_cons (kslice_mk h_.2) (Reps.none _ _))) (by rfl) (by simp) (by decide)) ?_
 refine i_e rfl rfl (eC [6,0] #[.agg (cfA p0 p1 p2 p3 p4 p5 p6),.slice (OA ro42_) ((([]:List Int) ++ l1).length) (OC ro42_),.slice (some ⟨b112_,0,none⟩) 2 2] Tryz.func8 (by decide) rfl (fun w ht=>pack_Cells_con _ p0 p1 p2 p3 p4 p5 p6 (OA ro42_) (OC ro42_) (([]:List Int) ++ l1) (some ⟨b112_,0,none⟩) 2 ([(t49_.take (Int.toNat a2_1)),(t49_.drop (Int.toNat a2_1))]:List (List S53)) t74_ t75_ e76_ w _)) ?_
 intro A113_ c114_
 refine ⟨(mem_pick (idx:=[7,8,9,10,11,12]) rfl),?_⟩
 refine aV 12 rfl (by kernel_rfl) (vM rfl) ?_
 refine aV 13 rfl (by kernel_rfl) (v_ext rfl rfl rfl) ?_
 refine aV 14 rfl (by kernel_rfl) (v_ext rfl rfl rfl) ?_
 refine aV 15 rfl (by kernel_rfl) (vA rfl) ?_
 refine aV 16 rfl (by kernel_rfl) (vA rfl) ?_
 refine a_end (by kernel_rfl) ?_
 refine q_seq ?_
 refine c_seq rfl ?_
 refine r_ordb (l:=[0,1,2,3,4,5,6,7,8,9]) rfl (by kernel_rfl) ?_
 refine sV rfl (vLA (lfA p0 p1 p2 p3 p4 p5 p6) 10 Tryz.underlying23 SZ23 rfl) ?_
 refine sM rfl ?_
 refine sV rfl (vF Tryz.underlying27 SZ25 rfl) ?_
 refine sV rfl (vL 9 Tryz.underlying25 rfl) ?_
 obtain ⟨⟨t120_,t121_⟩,e122_,H⟩:=bind_s H
 refine s_e rfl rfl (eC [11,12] #[.agg (cfA p0 p1 p2 p3 p4 p5 p6),.slice A1 l1.length c1,.slice A2_0 l2_0.length c2_0] Tryz.func9 (by decide) rfl (fun w ht=>sr22_Cells_con _ p0 p1 p2 p3 p4 p5 p6 A1 c1 l1 A2_0 c2_0 l2_0 t120_ t121_ e122_ w _)) ?_
 intro A123_ c124_
 refine sM rfl ?_
 refine sV rfl (v_ext rfl rfl rfl) ?_
 refine sV rfl (v_ext rfl rfl rfl) ?_
 refine sA rfl ?_
 refine sA rfl ?_
 refine sQ ?_
 obtain ⟨j133_,e134_,H⟩:=bind_s H
 refine c_join (β:=Unit) (fun _=>True) (fun _=>[(6,.bool j133_)]) (fun _=>[.f (KU A123_ c124_ t120_),.f (KU A113_ c114_ t74_),.f (KC (Kd.slice 53 k53) (some ⟨b112_,0,none⟩) 2 ([(t49_.take (Int.toNat a2_1)),(t49_.drop (Int.toNat a2_1))]:List (List S53))),.f (fun w_=>(fun w_=>(fun w_=>w_.heap[b112_]?=some (.cells #[.slice A51_ ((t49_.take (Int.toNat a2_1)).length) c52_,.slice (dropA A51_ c52_ (Int.toNat a2_1) 3) ((t49_.drop (Int.toNat a2_1)).length) (c52_ - (Int.toNat a2_1))] 29 (0,0))) w_∧(KC k53 A51_ c52_ (t49_.take (Int.toNat a2_1))) w_) w_∧(KC k53 (dropA A51_ c52_ (Int.toNat a2_1) 3) (c52_ - (Int.toNat a2_1)) (t49_.drop (Int.toNat a2_1))) w_),.f (fun w_=>(fun w_=>w_.heap[b112_]?=some (.cells #[.slice A51_ ((t49_.take (Int.toNat a2_1)).length) c52_,.slice (dropA A51_ c52_ (Int.toNat a2_1) 3) ((t49_.drop (Int.toNat a2_1)).length) (c52_ - (Int.toNat a2_1))] 29 (0,0))) w_∧(KC k53 A51_ c52_ (t49_.take (Int.toNat a2_1))) w_),.f (fun w_=>w_.heap[b112_]?=some (.cells #[.slice A51_ ((t49_.take (Int.toNat a2_1)).length) c52_,.slice (dropA A51_ c52_ (Int.toNat a2_1) 3) ((t49_.drop (Int.toNat a2_1)).length) (c52_ - (Int.toNat a2_1))] 29 (0,0))),.f (KC k53 A51_ c52_ (t49_.take (Int.toNat a2_1))),.f (KC k53 (dropA A51_ c52_ (Int.toNat a2_1) 3) (c52_ - (Int.toNat a2_1)) (t49_.drop (Int.toNat a2_1))),.f (KU (OA ro42_) (OC ro42_) (([]:List Int) ++ l1)),.f (KC k53 A51_ c52_ t49_),.b b4_ (.cells #[.slice A2_0 l2_0.length c2_0,.I a2_1] 27 (0,0)),.b b3_ (.cells (cfA p0 p1 p2 p3 p4 p5 p6) 23 (0,0)),.f (KU A1 c1 l1),.f (KC k47 A2_0 c2_0 l2_0)]) rfl (fun _ _=>?_) (fun J_=>?_)
 refine c_ret rfl ?_
 have e_:=Option.some.inj H
 subst e_
 exact q_ret (vs:=[.bool j133_]) rfl (.tmp rfl .nil) [] rfl (by decide) (hX)
 clear H
 have H:=e134_
 clear e134_
 refine r_ordb (l:=[0,1,2,3,4,5,6,7,8,9,10,11,12,13,14,15,16]) rfl (by kernel_rfl) ?_
 refine s_e rfl rfl (eC [] #[] Tryz.func6 (by decide) rfl (fun w ht=>alive_con w _)) ?_
 refine sM rfl ?_
 refine sG rfl (vM rfl) ?_
 refine sG rfl (vM rfl) ?_
 obtain ⟨t135_,e136_,H⟩:=bind_s H
 refine s_eg rfl rfl (eC [1,0] #[.slice A113_ t74_.length c114_,.slice A123_ t120_.length c124_] Tryz.func10 (by decide) rfl (fun w ht=>sr03_Same_con _ A113_ c114_ t74_ A123_ c124_ t120_ t135_ e136_ w _)) ?_
 refine sP rfl ?_
 refine sM rfl ?_
 rcases Bool.eq_false_or_eq_true t135_ with h137_ | h137_
 subst h137_
 replace H:=ite_y rfl H
 refine sG rfl (vM rfl) ?_
 refine sG rfl (vM rfl) ?_
 refine sG rfl (v_eqB rfl Tryz.underlying4 rfl rfl) ?_
 refine sP rfl ?_
 refine sM rfl ?_
 rcases Bool.eq_false_or_eq_true ((t75_ == t121_)) with h138_ | h138_
 replace H:=ite_y h138_ H
 refine s_splitv (d:=81) (t:=(t75_ == t121_)) rfl (fun _=>?_) (fun h139_=>absurd (h139_.symm.trans h138_) (by decide))
 refine sG rfl (vM rfl) ?_
 refine sG rfl (vM rfl) ?_
 obtain ⟨t140_,e141_,H⟩:=bind_s H
 refine s_eg rfl rfl (eC [8,12] #[.slice (OA ro42_) ((([]:List Int) ++ l1).length) (OC ro42_),.slice A1 l1.length c1] Tryz.func10 (by decide) rfl (fun w ht=>sr03_Same_con _ (OA ro42_) (OC ro42_) (([]:List Int) ++ l1) A1 c1 l1 t140_ e141_ w _)) ?_
 refine sP rfl ?_
 refine sA rfl ?_
 refine s_end ?_
 have hq_0:=Option.some.inj H
 subst hq_0
 exact q_seq (c_frame (subF_spec (by exact ⟨rfl,trivial⟩)) (c_take [0,1,2,3,4,5,6,7,8,9,10,11,12,13] rfl (by decide) (J_ () trivial)))
 replace H:=ite_n (not_t h138_) H
 refine s_splitv (d:=81) (t:=(t75_ == t121_)) rfl (fun h142_=>absurd (h142_.symm.trans h138_) (by decide)) (fun _=>?_)
 refine sN rfl ?_
 refine sN rfl ?_
 refine sN rfl ?_
 refine sP rfl ?_
 refine sA rfl ?_
 refine s_end ?_
 have hq_0:=Option.some.inj H
 subst hq_0
 exact q_seq (c_frame (subF_spec (by exact ⟨rfl,trivial⟩)) (c_take [0,1,2,3,4,5,6,7,8,9,10,11,12,13] rfl (by decide) (J_ () trivial)))
 subst h137_
 replace H:=ite_n (by decide) H
 refine sN rfl ?_
 refine sN rfl ?_
 refine sN rfl ?_
 refine sP rfl ?_
 refine sM rfl ?_
 refine sN rfl ?_
 refine sN rfl ?_
 refine sN rfl ?_
 refine sP rfl ?_
 refine sA rfl ?_
 refine s_end ?_
 have hq_0:=Option.some.inj H
 subst hq_0
 exact q_seq (c_frame (subF_spec (by exact ⟨rfl,trivial⟩)) (c_take [0,1,2,3,4,5,6,7,8,9,10,11,12,13] rfl (by decide) (J_ () trivial)))
 clear H
 have H:=e33_
 clear e33_
 refine r_ordb (l:=[0,1,2,3,4,5,6,7,8,9,10,11,12,13,14,15,16,17,18,19,20,21,22,23,24,25,26]) rfl (by kernel_rfl) ?_
 refine sV rfl (vF Tryz.underlying23 SZ3 rfl) ?_
 refine sV rfl (vL 1 Tryz.underlying3 rfl) ?_
 refine sR rfl ?_
 refine sM rfl ?_
 rcases Bool.eq_false_or_eq_true (decide ((p2:Int) > 20)) with h143_ | h143_
 replace H:=ite_y (dec_t h143_) H
 refine s_splitv (d:=16) (t:=decide ((p2:Int) > 20)) rfl (fun _=>?_) (fun h144_=>absurd (h144_.symm.trans h143_) (by decide))
 refine sN rfl ?_
 refine sN rfl ?_
 refine sN rfl ?_
 refine sP rfl ?_
 refine sM rfl ?_
 refine sN rfl ?_
 refine sN rfl ?_
 refine sN rfl ?_
 refine sN rfl ?_
 refine sP rfl ?_
 refine sM rfl ?_
 refine sN rfl ?_
 refine sN rfl ?_
 refine sN rfl ?_
 refine sP rfl ?_
 refine sM rfl ?_
 refine sN rfl ?_
 refine sN rfl ?_
 refine sN rfl ?_
 refine sN rfl ?_
 refine sN rfl ?_
 refine sN rfl ?_
 refine sP rfl ?_
 refine s_end ?_
 have hq_0:=Option.some.inj H
 subst hq_0
 exact q_seq (c_frame (subF_spec (by exact ⟨rfl,rfl,rfl,rfl,rfl,trivial⟩)) (c_take [0,1,2,3] rfl (by decide) (J_ () trivial)))
 replace H:=ite_n (dec_f h143_) H
 refine s_splitv (d:=16) (t:=decide ((p2:Int) > 20)) rfl (fun h145_=>absurd (h145_.symm.trans h143_) (by decide)) (fun _=>?_)
 refine sG rfl (vM rfl) ?_
 refine sG rfl (v_len rfl rfl rfl Tryz.underlying24 rfl rfl) ?_
 refine sG rfl (vR rfl) ?_
 refine sP rfl ?_
 refine sM rfl ?_
 rcases Bool.eq_false_or_eq_true (decide (((l1.length:Int):Int) > 400)) with h146_ | h146_
 replace H:=ite_y (dec_t h146_) H
 refine s_splitv (d:=21) (t:=decide (((l1.length:Int):Int) > 400)) rfl (fun _=>?_) (fun h147_=>absurd (h147_.symm.trans h146_) (by decide))
 refine sN rfl ?_
 refine sN rfl ?_
 refine sN rfl ?_
 refine sN rfl ?_
 refine sP rfl ?_
 refine sM rfl ?_
 refine sN rfl ?_
 refine sN rfl ?_
 refine sN rfl ?_
 refine sP rfl ?_
 refine sM rfl ?_
 refine sN rfl ?_
 refine sN rfl ?_
 refine sN rfl ?_
 refine sN rfl ?_
 refine sN rfl ?_
 refine sN rfl ?_
 refine sP rfl ?_
 refine s_end ?_
 have hq_0:=Option.some.inj H
 subst hq_0
 exact q_seq (c_frame (subF_spec (by exact ⟨rfl,rfl,rfl,rfl,rfl,trivial⟩)) (c_take [0,1,2,3] rfl (by decide) (J_ () trivial)))
 replace H:=ite_n (dec_f h146_) H
 refine s_splitv (d:=21) (t:=decide (((l1.length:Int):Int) > 400)) rfl (fun h148_=>absurd (h148_.symm.trans h146_) (by decide)) (fun _=>?_)
 refine sG rfl (vF Tryz.underlying27 SZ25 rfl) ?_
 refine sG rfl (vL 0 Tryz.underlying25 rfl) ?_
 refine sG rfl (v_len rfl rfl rfl Tryz.underlying25 rfl rfl) ?_
 refine sG rfl (vR rfl) ?_
 refine sP rfl ?_
 refine sM rfl ?_
 rcases Bool.eq_false_or_eq_true (decide (((l2_0.length:Int):Int) > 40)) with h149_ | h149_
 replace H:=ite_y (dec_t h149_) H
 refine s_splitv (d:=27) (t:=decide (((l2_0.length:Int):Int) > 40)) rfl (fun _=>?_) (fun h150_=>absurd (h150_.symm.trans h149_) (by decide))
 refine sN rfl ?_
 refine sN rfl ?_
 refine sN rfl ?_
 refine sP rfl ?_
 refine sM rfl ?_
 refine sN rfl ?_
 refine sN rfl ?_
 refine sN rfl ?_
 refine sN rfl ?_
 refine sN rfl ?_
 refine sN rfl ?_
 refine sP rfl ?_
 refine s_end ?_
 have hq_0:=Option.some.inj H
 subst hq_0
 exact q_seq (c_frame (subF_spec (by exact ⟨rfl,rfl,rfl,rfl,rfl,trivial⟩)) (c_take [0,1,2,3] rfl (by decide) (J_ () trivial)))
 replace H:=ite_n (dec_f h149_) H
 refine s_splitv (d:=27) (t:=decide (((l2_0.length:Int):Int) > 40)) rfl (fun h151_=>absurd (h151_.symm.trans h149_) (by decide)) (fun _=>?_)
 refine sG rfl (vF Tryz.underlying27 SZ3 rfl) ?_
 refine sG rfl (vL 0 Tryz.underlying3 rfl) ?_
 refine sG rfl (vR rfl) ?_
 refine sP rfl ?_
 refine sM rfl ?_
 rcases Bool.eq_false_or_eq_true (decide ((a2_1:Int)<0)) with h152_ | h152_
 replace H:=ite_y (dec_t h152_) H
 refine s_splitv (d:=32) (t:=decide ((a2_1:Int)<0)) rfl (fun _=>?_) (fun h153_=>absurd (h153_.symm.trans h152_) (by decide))
 refine sN rfl ?_
 refine sN rfl ?_
 refine sN rfl ?_
 refine sN rfl ?_
 refine sN rfl ?_
 refine sN rfl ?_
 refine sP rfl ?_
 refine s_end ?_
 have hq_0:=Option.some.inj H
 subst hq_0
 exact q_seq (c_frame (subF_spec (by exact ⟨rfl,rfl,rfl,rfl,rfl,trivial⟩)) (c_take [0,1,2,3] rfl (by decide) (J_ () trivial)))
 replace H:=ite_n (dec_f h152_) H
 refine s_splitv (d:=32) (t:=decide ((a2_1:Int)<0)) rfl (fun h154_=>absurd (h154_.symm.trans h152_) (by decide)) (fun _=>?_)
 refine sG rfl (vF Tryz.underlying27 SZ3 rfl) ?_
 refine sG rfl (vL 0 Tryz.underlying3 rfl) ?_
 refine sG rfl (vF Tryz.underlying27 SZ25 rfl) ?_
 refine sG rfl (vL 0 Tryz.underlying25 rfl) ?_
 refine sG rfl (v_len rfl rfl rfl Tryz.underlying25 rfl rfl) ?_
 refine sG rfl (vR rfl) ?_
 refine sP rfl ?_
 refine s_end ?_
 have hq_0:=Option.some.inj H
 subst hq_0
 exact q_seq (c_frame (subF_spec (by exact ⟨rfl,rfl,rfl,rfl,rfl,trivial⟩)) (c_take [0,1,2,3] rfl (by decide) (J_ () trivial)))
def stepstonelaw22_PackKeeps.l0:Nat→Int→Int→Int→Int→Int→Int→Int→List Int→Bool→Int→Option Bool
 | 0,_,_,_,_,_,_,_,_,_,_=>none
 | k+1,p0,p1,p2,p3,p4,p5,p6,t53_,x117_,x118_=>(if (x118_:Int)≤p2 then (sr04_Cell.f p0 p1 p2 p3 p4 p5 p6 x118_ 0).bind fun t156_=>(if 0≤(t156_:Int) then (if (t156_:Int)<(t53_.length:Int) then (sr02_State.f (rd t53_ t156_)).bind fun t160_=>((if (t160_:Int)=1 then some (true,x117_) else some (false,false)):Option (Bool × Bool)).bind fun (j169_,j170_)=>(if j170_=true then some false else (if x117_=true then stepstonelaw22_PackKeeps.l0 k p0 p1 p2 p3 p4 p5 p6 t53_ true (IntKind.wrap .i64 (x118_+1)) else stepstonelaw22_PackKeeps.l0 k p0 p1 p2 p3 p4 p5 p6 t53_ ((t160_:Int) == 0) (IntKind.wrap .i64 (x118_+1)))) else none) else none) else (pack_Cells.f k p0 p1 p2 p3 p4 p5 p6 t53_ ([]:List (List S53))).bind fun (t183_,t184_)=>((if t184_=true then (sr03_Same.f k t183_ t53_).bind fun t194_=>some t194_ else some false):Option Bool).bind fun j191_=>some j191_)
def stepstonelaw22_PackKeeps.f (k:Nat) (p0:Int) (p1:Int) (p2:Int) (p3:Int) (p4:Int) (p5:Int) (p6:Int) (l1:List Int) (l2_0:List S47) (a2_1:Int):Option Bool:=((if (p2:Int) > 20 then some true else (if ((l1.length:Int):Int) > 400 then some true else (if ((l2_0.length:Int):Int) > 40 then some true else (sr21_Rest.f k p0 p1 p2 p3 p4 p5 p6 l1 l2_0).bind fun t223_=>some (!t223_)))):Option Bool).bind fun j30_=>(if j30_=true then some true else (stepstonelaw06_News.f k l2_0).bind fun t48_=>(pack_Cells.f k p0 p1 p2 p3 p4 p5 p6 l1 ([t48_]:List (List S53))).bind fun (t53_,t54_)=>((if t54_=true then (sr21_Rest.f k p0 p1 p2 p3 p4 p5 p6 t53_ ([]:List S47)).bind fun t197_=>(if t197_=true then (sr21_Map.f k p0 p1 p2 p3 p4 p5 p6 t53_).bind fun t200_=>(sr21_Map.f k p0 p1 p2 p3 p4 p5 p6 l1).bind fun t204_=>(sr07_Equal.f k t200_ t204_).bind fun t208_=>some (!t208_) else some true) else some true):Option Bool).bind fun j102_=>(if j102_=true then some false else stepstonelaw22_PackKeeps.l0 k p0 p1 p2 p3 p4 p5 p6 t53_ false 1))
mutual
def stepstonelaw22_PackHandles.l1:Nat→Int→Int→Int→Int→Int→Int→Int→List S47→List Int→List Int→List Int→Int→Int→Bool→Int→Option Bool
 | 0,_,_,_,_,_,_,_,_,_,_,_,_,_,_,_=>none
 | k+1,p0,p1,p2,p3,p4,p5,p6,l2_0,t53_,t74_,t84_,x124_,t171_,x176_,x177_=>(if (x177_:Int)<(t84_.length:Int) then ((if 0≤(x177_:Int) then (if x176_=true then some (true,true,true,true) else some ((rd t84_ x177_:Int) == (rd t74_ x124_),false,false,(rd t84_ x177_:Int) == (rd t74_ x124_))) else none):Option (Bool × Bool × Bool × Bool)).bind fun (j191_,j192_,j193_,j194_)=>stepstonelaw22_PackHandles.l1 k p0 p1 p2 p3 p4 p5 p6 l2_0 t53_ t74_ t84_ x124_ t171_ j191_ (IntKind.wrap .i64 (x177_+1)) else (sr04_Cell.f p0 p1 p2 p3 p4 p5 p6 t171_ 0).bind fun t204_=>(if 0≤(t204_:Int) then (if (t204_:Int)<(t53_.length:Int) then ((if x176_=true then some (false,false) else (sr01_Gen.f (rd t74_ x124_)).bind fun t221_=>(sr02_Taken.f t221_).bind fun t223_=>some (true,(rd t53_ t204_:Int) == t223_)):Option (Bool × Bool)).bind fun (j215_,j216_)=>(if j216_=true then some false else stepstonelaw22_PackHandles.l0 k p0 p1 p2 p3 p4 p5 p6 l2_0 t53_ t74_ t84_ (IntKind.wrap .i64 (x124_+1))) else none) else none))
def stepstonelaw22_PackHandles.l2:Nat→Int→Int→Int→Int→Int→Int→Int→List S47→List Int→List Int→List Int→Int→Option Bool
 | 0,_,_,_,_,_,_,_,_,_,_,_,_=>none
 | k+1,p0,p1,p2,p3,p4,p5,p6,l2_0,t53_,t74_,t84_,x244_=>(if (x244_:Int)<(l2_0.length:Int) then (if 0≤(x244_:Int) then (sr01_Index.f ((rd_T47 l2_0 x244_).f0)).bind fun t290_=>(sr04_Cell.f p0 p1 p2 p3 p4 p5 p6 t290_ 0).bind fun t300_=>(if 0≤(t300_:Int) then (if (t300_:Int)<(t53_.length:Int) then (sr01_Gen.f ((rd_T47 l2_0 x244_).f0)).bind fun t304_=>(sr02_Taken.f t304_).bind fun t306_=>(if (rd t53_ t300_:Int)=t306_ then some false else stepstonelaw22_PackHandles.l2 k p0 p1 p2 p3 p4 p5 p6 l2_0 t53_ t74_ t84_ (IntKind.wrap .i64 (x244_+1))) else none) else none) else none) else some (((t84_.length:Int):Int) == (t74_.length:Int)))
def stepstonelaw22_PackHandles.l0:Nat→Int→Int→Int→Int→Int→Int→Int→List S47→List Int→List Int→List Int→Int→Option Bool
 | 0,_,_,_,_,_,_,_,_,_,_,_,_=>none
 | k+1,p0,p1,p2,p3,p4,p5,p6,l2_0,t53_,t74_,t84_,x124_=>(if (x124_:Int)<(t74_.length:Int) then (if 0≤(x124_:Int) then (sr01_Index.f (rd t74_ x124_)).bind fun t171_=>stepstonelaw22_PackHandles.l1 k p0 p1 p2 p3 p4 p5 p6 l2_0 t53_ t74_ t84_ x124_ t171_ false 0 else none) else stepstonelaw22_PackHandles.l2 k p0 p1 p2 p3 p4 p5 p6 l2_0 t53_ t74_ t84_ 0)
end
def stepstonelaw22_PackHandles.f (k:Nat) (p0:Int) (p1:Int) (p2:Int) (p3:Int) (p4:Int) (p5:Int) (p6:Int) (l1:List Int) (l2_0:List S47) (a2_1:Int):Option Bool:=((if (p2:Int) > 20 then some true else (if ((l1.length:Int):Int) > 400 then some true else (if ((l2_0.length:Int):Int) > 40 then some true else (sr21_Rest.f k p0 p1 p2 p3 p4 p5 p6 l1 l2_0).bind fun t321_=>some (!t321_)))):Option Bool).bind fun j30_=>(if j30_=true then some true else (stepstonelaw06_News.f k l2_0).bind fun t48_=>(pack_Cells.f k p0 p1 p2 p3 p4 p5 p6 l1 ([t48_]:List (List S53))).bind fun (t53_,t54_)=>(if ((t53_.length:Int):Int)=(l1.length:Int) then (sr21_Level.f k p0 p1 p2 p3 p4 p5 p6 l1 0).bind fun (t74_,t75_)=>(sr21_Level.f k p0 p1 p2 p3 p4 p5 p6 t53_ 0).bind fun (t84_,t85_)=>stepstonelaw22_PackHandles.l0 k p0 p1 p2 p3 p4 p5 p6 l2_0 t53_ t74_ t84_ 0 else some false))
end Go.Eng
namespace Go.Eng
open Go.Proofs Go.RowKit Go.Proofs.YtgbcnokeaaabfaaGreatW.PrintWords
set_option linter.unusedVariables false
set_option linter.unusedSimpArgs false
theorem ofInt_nat {x:Int} (h0:0≤x) (h1:x<18446744073709551616):((BitVec.ofInt 64 x).toNat:Int)=x:=by
 rw [BitVec.toNat_ofInt]
 have:0≤x % ((2 ^ 64:Nat):Int):=Int.emod_nonneg _ (by decide)
 rw [Int.toNat_of_nonneg this]
 exact Int.emod_eq_of_lt h0 h1
theorem and_pow (n i:Nat):n &&& 2 ^ i=(n.testBit i).toNat * 2 ^ i:=by
 apply Nat.eq_of_testBit_eq
 intro j
 rw [Nat.testBit_and,Nat.testBit_two_pow]
 cases h:n.testBit i
 ·simp only [Bool.toNat_false,Nat.zero_mul,Nat.zero_testBit]
  by_cases hj:i=j
  ·subst hj; simp [h]
  ·simp [hj]
 ·simp only [Bool.toNat_true,Nat.one_mul,Nat.testBit_two_pow]
  by_cases hj:i=j
  ·subst hj; simp [h]
  ·simp [hj]
theorem bit63 (b:BitVec 64):((b &&& BitVec.ofInt 64 9223372036854775808).toNat != 0)=decide (b.toNat≥9223372036854775808):=by
 have hb:=b.isLt
 have e:(BitVec.ofInt 64 9223372036854775808).toNat=2 ^ 63:=by decide
 rw [BitVec.toNat_and,e,and_pow,Nat.testBit_eq_decide_div_mod_eq]
 by_cases h:b.toNat≥9223372036854775808
 ·have h2:b.toNat / 2 ^ 63 % 2=1:=by omega
  rw [decide_eq_true h2,decide_eq_true h]
  decide
 ·have h2:¬ b.toNat / 2 ^ 63 % 2=1:=by omega
  rw [decide_eq_false h2,decide_eq_false h]
  decide
theorem bit62 (b:BitVec 64):(b &&& ~~~ BitVec.ofInt 64 4611686018427387904).toNat=if b.toNat / 4611686018427387904 % 2=1 then b.toNat - 4611686018427387904 else b.toNat:=by
 generalize hc:BitVec.ofInt 64 4611686018427387904=c
 have e:c.toNat=2 ^ 62:=by rw [← hc]; decide
 have h1:(b &&& ~~~c)+(b &&& c)=b:=by
  rw [BitVec.add_eq_or_of_and_eq_zero]
  ·ext i
   simp
   cases b[i] <;> cases c[i] <;> rfl
  ·ext i
   simp
   cases b[i] <;> cases c[i] <;> simp
 have h2:=congrArg BitVec.toNat h1
 rw [BitVec.toNat_add] at h2
 have hq:(b &&& c).toNat=(b.toNat.testBit 62).toNat * 2 ^ 62:=by rw [BitVec.toNat_and,e,and_pow]
 have hp:(b &&& ~~~c).toNat≤b.toNat:=by rw [BitVec.toNat_and]; exact Nat.and_le_left
 have hb:=b.isLt
 rw [Nat.testBit_eq_decide_div_mod_eq] at hq
 by_cases h:b.toNat / 4611686018427387904 % 2=1
 ·have h3:b.toNat / 2 ^ 62 % 2=1:=h
  rw [decide_eq_true h3] at hq
  have hq2:(b &&& c).toNat=4611686018427387904:=hq
  rw [if_pos h]
  omega
 ·have h3:¬ b.toNat / 2 ^ 62 % 2=1:=h
  rw [decide_eq_false h3] at hq
  have hq2:(b &&& c).toNat=0:=by rw [hq]; decide
  rw [if_neg h]
  omega
theorem valid_is {x:Int} (h0:0≤x) (h1:x<18446744073709551616):handle_Valid.f x=some (decide (x≥9223372036854775808)):=by
 have key:∀ n:Nat,n<18446744073709551616→((IntKind.wrap .u64 (n:Int)) != 0)=(n != 0):=fun n hn=>by
  rw [wu64 (by omega) (by omega),Bool.eq_iff_iff]
  simp
 have e:=ofInt_nat h0 h1
 have e2:decide ((BitVec.ofInt 64 x).toNat≥9223372036854775808)=decide (x≥9223372036854775808):=by
  rw [Bool.eq_iff_iff,decide_eq_true_eq,decide_eq_true_eq]; omega
 exact congrArg some ((key _ (BitVec.isLt _)).trans ((bit63 _).trans e2))
theorem plF_is {x:Int} (h0:0≤x) (h1:x<18446744073709551616):plF x=if x / 4611686018427387904 % 2=1 then x - 4611686018427387904 else x:=by
 have key:∀ m:Nat,m<18446744073709551616→(some (IntKind.wrap .u64 (m:Int))).getD 0=(m:Int):=fun n hn=>wu64 (by omega) (by omega)
 have e:=ofInt_nat h0 h1
 refine (key _ (BitVec.isLt _)).trans ?_
 refine (congrArg (fun n:Nat=>(n:Int)) (bit62 (BitVec.ofInt 64 x))).trans ?_
 generalize (BitVec.ofInt 64 x).toNat=n at e
 subst e
 by_cases h:n / 4611686018427387904 % 2=1
 ·rw [if_pos (show (n:Int) / 4611686018427387904 % 2=1 by omega)]
  simp only [h,if_true]
  omega
 ·rw [if_neg (show ¬ (n:Int) / 4611686018427387904 % 2=1 by omega)]
  simp only [h,if_false]
theorem ref_plain {x:Int} (h0:0≤x) (h1:x<18446744073709551616):sr01_Plain.f x=some (plF x):=by
 unfold sr01_Plain.f sr01_Marked.f
 rw [plF_is h0 h1,Int.tdiv_eq_ediv_of_nonneg h0,wu64 (n:=x / 4611686018427387904) (by omega) (by omega),Int.tmod_eq_emod_of_nonneg (by omega)]
 simp only [Option.bind_some]
 by_cases h:x / 4611686018427387904 % 2=1
 ·rw [if_pos h,h,if_pos (by decide),wu64 (by omega) (by omega)]
 ·rw [if_neg h,if_neg (by simpa using h)]
theorem ref_index {x:Int} (h0:0≤x):sr01_Index.f x=some (x % 4294967296):=by
 unfold sr01_Index.f
 rw [Int.tmod_eq_emod_of_nonneg h0,wi64 (by omega) (by omega)]
section
variable {T S C H K V L:Int} {l:List Int}
theorem nm_is {x:Int} (h0:0≤x) (h1:x<18446744073709551616):nmF T S C H K V L l x=(decide (x≥9223372036854775808) && decide (x % 4294967296≥1) && decide (x % 4294967296≤C)):=by
 unfold nmF sw_names.f
 rw [valid_is h0 h1]
 simp only [Option.bind_some]
 by_cases h2:x≥9223372036854775808
 ·rw [decide_eq_true h2]
  by_cases h3:x % 4294967296≥1
  ·rw [decide_eq_true h3]; simp [h3]
  ·rw [decide_eq_false h3]; simp [h3]
 ·rw [decide_eq_false h2]; simp
theorem ref_at (hr:R7 T S C H K V L) (hl:(l.length:Int)=lenI T S C H) {i f:Int} (hf:isF C H i f=true):sr21_at.f T S C H K V L l i f=some (atF T S C H K V L l i f):=by
 obtain ⟨h1,h2,h3,h4⟩:=isF_iff.1 hf
 have hc:=cells hr h1 h2 h3 h4
 unfold sr21_at.f atF
 rw [ref04_Cell_is,r7_iff.2 hr,hf,at_some hr hl hf]
 simp only [Bool.and_self,if_true,Option.bind_some]
 rw [if_pos hc.1,if_pos (by rw [hl]; exact hc.2.1)]
 rfl
theorem rd_u64 (hu:∀ x∈l,0≤x∧x<18446744073709551616) (j:Int):0≤rd l j∧rd l j<18446744073709551616:=by
 unfold rd
 rw [List.getD_eq_getElem?_getD]
 cases e:l[j.toNat]? with
 | none=>exact ⟨Int.le_refl _,by decide⟩
 | some v=>exact hu v (List.mem_of_getElem? e)
theorem at_u64 (hr:R7 T S C H K V L) (hl:(l.length:Int)=lenI T S C H) (hu:∀ x∈l,0≤x∧x<18446744073709551616) {i f:Int} (hf:isF C H i f=true):0≤atF T S C H K V L l i f∧atF T S C H K V L l i f<18446744073709551616:=by
 unfold atF
 rw [at_some hr hl hf]
 exact rd_u64 hu _
end
theorem same_l0 {l:List Int} (hb:l.length≤1000):∀ (m k i:Nat),l.length=i+m→m<k→sr03_Same.l0 k l l (i:Int)=some true
 | 0,0,i,_,h=>absurd h (by decide)
 | m+1,0,i,_,h=>absurd h (by omega)
 | 0,k+1,i,hl,_=>by rw [sr03_Same.l0,if_neg (by omega)]
 | m+1,k+1,i,hl,h=>by
  have e2:IntKind.wrap .i64 ((i:Int)+1)=((i+1:Nat):Int):=by rw [wi64 (by omega) (by omega)]; rfl
  rw [sr03_Same.l0,if_pos (by omega),if_pos (by omega),if_pos (by omega),if_pos rfl,e2]
  exact same_l0 hb m k (i+1) (by omega) (by omega)
theorem same_is {l:List Int} (hb:l.length≤1000):sr03_Same.f 3000 l l=some true:=by
 unfold sr03_Same.f
 rw [if_pos rfl]
 exact same_l0 hb l.length 3000 0 (by omega) (by omega)
theorem u64_of {l:List Int} (hw:l.length≤maxLen∧∀ x∈l,(Lit.int .u64 x).wf=true):∀ x∈l,0≤x∧x<18446744073709551616:=fun x hx=>by
 have h:IntKind.u64.min≤x∧x≤IntKind.u64.max:=by simpa [Lit.wf] using hw.2 x hx
 have e:IntKind.u64.min=0:=by decide
 have e2:IntKind.u64.max=18446744073709551615:=by decide
 omega
theorem drop_cons' {α:Type} {l:List α} {i:Nat} {x:α} {r:List α} (h:l.drop i=x :: r):i<l.length∧l[i]?=some x∧l.drop (i+1)=r:=by
 have h1:i<l.length:=by
  rcases Nat.lt_or_ge i l.length with h1 | h1
  ·exact h1
  ·rw [List.drop_eq_nil_of_le h1] at h; cases h
 have h2:=List.drop_eq_getElem_cons h1
 rw [h] at h2
 injection h2 with h3 h4
 exact ⟨h1,by rw [List.getElem?_eq_getElem h1,h3],h4.symm⟩
theorem bit0 (b:BitVec 64):(b &&& BitVec.ofInt 64 1).toNat=b.toNat % 2:=by
 have e:(BitVec.ofInt 64 1).toNat=2 ^ 0:=by decide
 rw [BitVec.toNat_and,e,and_pow,Nat.testBit_eq_decide_div_mod_eq]
 by_cases h:b.toNat % 2=1
 ·rw [decide_eq_true (show b.toNat / 2 ^ 0 % 2=1 by simpa using h),h]; decide
 ·rw [decide_eq_false (show ¬ b.toNat / 2 ^ 0 % 2=1 by simpa using h),show b.toNat % 2=0 by omega]; decide
theorem dead_is {x:Int} (h0:0≤x) (h1:x<18446744073709551616):slot_Dead.f x=some (decide (x % 2=1)):=by
 have key:∀ n:Nat,n<18446744073709551616→((IntKind.wrap .u64 (n:Int)) == 1)=decide (n=1):=fun n hn=>by
  rw [wu64 (by omega) (by omega),Bool.eq_iff_iff]
  simp
  omega
 have e:=ofInt_nat h0 h1
 have e2:decide ((BitVec.ofInt 64 x &&& BitVec.ofInt 64 1).toNat=1)=decide (x % 2=1):=by
  rw [bit0,Bool.eq_iff_iff,decide_eq_true_eq,decide_eq_true_eq]; omega
 exact congrArg some ((key _ (BitVec.isLt _)).trans e2)
theorem ref_dead {x:Int} (h0:0≤x):sr02_Dead.f x=some (decide (x % 2=1)):=by
 unfold sr02_Dead.f
 rw [Int.tmod_eq_emod_of_nonneg h0]
 rfl
theorem bit62m (b:BitVec 64):((b &&& BitVec.ofInt 64 4611686018427387904).toNat != 0)=decide (b.toNat / 4611686018427387904 % 2=1):=by
 have e:(BitVec.ofInt 64 4611686018427387904).toNat=2 ^ 62:=by decide
 rw [BitVec.toNat_and,e,and_pow,Nat.testBit_eq_decide_div_mod_eq]
 by_cases h:b.toNat / 4611686018427387904 % 2=1
 ·rw [decide_eq_true (show b.toNat / 2 ^ 62 % 2=1 from h)]
  decide
 ·rw [decide_eq_false (show ¬ b.toNat / 2 ^ 62 % 2=1 from h)]
  decide
theorem marked_is {x:Int} (h0:0≤x) (h1:x<18446744073709551616):handle_Marked.f x=some (decide (x / 4611686018427387904 % 2=1)):=by
 have key:∀ n:Nat,n<18446744073709551616→((IntKind.wrap .u64 (n:Int)) != 0)=(n != 0):=fun n hn=>by
  rw [wu64 (by omega) (by omega),Bool.eq_iff_iff]
  simp
 have e:=ofInt_nat h0 h1
 have e2:decide ((BitVec.ofInt 64 x).toNat / 4611686018427387904 % 2=1)=decide (x / 4611686018427387904 % 2=1):=by
  rw [Bool.eq_iff_iff,decide_eq_true_eq,decide_eq_true_eq]; omega
 exact congrArg some ((key _ (BitVec.isLt _)).trans ((bit62m _).trans e2))
theorem rd_set {xs:List Int} {n:Nat} (hn:n<xs.length) (v j:Int):rd (xs.set n v) j=if j.toNat=n then v else rd xs j:=by
 unfold rd
 rw [List.getD_eq_getElem?_getD,List.getD_eq_getElem?_getD,List.getElem?_set]
 by_cases h:n=j.toNat
 ·rw [if_pos h,if_pos h.symm,if_pos (h ▸ hn)]
  rfl
 ·rw [if_neg h,if_neg (fun e=>h e.symm)]
theorem cell_inj {T S C H i f a b:Int} (h1:isF C H i f=true) (h2:isF C H a b=true) (e:cellI T S H i f=cellI T S H a b):i=a∧f=b:=by
 rw [isF_iff] at h1 h2
 unfold cellI at e
 have e1:i * (6+H)+f=a * (6+H)+b:=by omega
 have hW:0<6+H:=by omega
 have e2:(i * (6+H)+f) % (6+H)=f:=by
  rw [Int.add_comm,Int.add_mul_emod_self_right]
  exact Int.emod_eq_of_lt (by omega) (by omega)
 have e3:(a * (6+H)+b) % (6+H)=b:=by
  rw [Int.add_comm,Int.add_mul_emod_self_right]
  exact Int.emod_eq_of_lt (by omega) (by omega)
 have e4:f=b:=by rw [← e2,← e3,e1]
 refine ⟨?_,e4⟩
 have e5:i * (6+H)=a * (6+H):=by omega
 exact Int.eq_of_mul_eq_mul_right (by omega) e5
end Go.Eng
namespace Go.Eng
open Go.Proofs Go.RowKit Go.Proofs.YtgbcnokeaaabfaaGreatW.PrintWords
set_option linter.unusedVariables false
set_option linter.unusedSimpArgs false
theorem or1 {g:Int} (h0:0≤g) (h1:g<1073741824):slot_word_packed.f 1 g=some (4 * g+1):=by
 have key:∀ n:Nat,n<1073741824→(IntKind.wrap .u64 (BitVec.ofInt (IntKind.bits .u64) (4 * (n:Int)) ||| BitVec.ofInt (IntKind.bits .u64) 1).toNat:Int)=4 * (n:Int)+1:=by
  intro n hn
  have e:(BitVec.ofInt 64 (4 * (n:Int)) ||| BitVec.ofInt 64 1).toNat=4 * n+1:=by
   rw [BitVec.toNat_or,show (4 * (n:Int))=((4 * n:Nat):Int) by omega,BitVec.ofInt_natCast,BitVec.toNat_ofNat,Nat.mod_eq_of_lt (by omega),show (BitVec.ofInt 64 1).toNat=1 by decide]
   have:=Nat.shiftLeft_add_eq_or_of_lt (show 1<2 ^ 2 by decide) n
   rw [Nat.shiftLeft_eq,show n * 2 ^ 2=4 * n by omega] at this
   exact this.symm
  rw [show IntKind.bits .u64=64 from rfl,e,wu64 (by omega) (by omega)]
  omega
 unfold slot_word_packed.f
 have e2:((2:Int) ^ (min (Int.toNat 2) (IntKind.bits .u64)))=4:=by decide
 rw [wu64 h0 (by omega),e2,wu64 (n:=g * 4) (by omega) (by omega),show IntKind.wrap .u64 1=1 by decide,show g * 4=4 * ((g.toNat:Nat):Int) by omega,key g.toNat (by omega)]
 congr 2
 omega
theorem meta_is {g:Int} (h0:0≤g) (h1:g<1073741824):slot_Meta.f 1 g=some (4 * g+1,true):=by
 have e:slot_word_right.f 1 g=some true:=by
  unfold slot_word_right.f
  rw [to_eq 1 0 2 (by decide),to_eq g 0 1073741823 (by decide),decide_eq_true (show 0≤g from h0),decide_eq_true (show g≤1073741823 by omega)]
  rfl
 unfold slot_Meta.f
 rw [e,or1 h0 h1]
 rfl
theorem ref_taken {g:Int} (h0:0≤g) (h1:g<1073741824):sr02_Taken.f g=some (4 * g+1):=by
 unfold sr02_Taken.f sr02_Meta.f
 rw [if_neg (by decide),if_neg (by decide),if_neg (by omega),decide_eq_false (show ¬ g > 1073741823 by omega)]
 simp only [Option.bind_some,Bool.false_eq_true,if_false]
 rw [wi64 (n:=4 * g) (by omega) (by omega),wi64 (by omega) (by omega),wu64 (by omega) (by omega)]
theorem ref_gen {x:Int} (h0:0≤x) (h1:x<18446744073709551616):sr01_Gen.f x=some (x / 4294967296 % 1073741824):=by
 unfold sr01_Gen.f
 rw [Int.tdiv_eq_ediv_of_nonneg h0,wu64 (by omega) (by omega),Int.tmod_eq_emod_of_nonneg (by omega),wi64 (by omega) (by omega)]
theorem ref_marked {x:Int} (h0:0≤x) (h1:x<18446744073709551616):sr01_Marked.f x=some (decide (x / 4611686018427387904 % 2=1)):=by
 unfold sr01_Marked.f
 rw [Int.tdiv_eq_ediv_of_nonneg h0,wu64 (by omega) (by omega),Int.tmod_eq_emod_of_nonneg (by omega)]
 rfl
theorem ref_valid (x:Int):sr01_Valid.f x=some (decide (x≥9223372036854775808)):=rfl
def mks (f:Int→Bool):Nat→Int→Bool
 | 0,_=>true
 | n+1,x=>f x && mks f n (x+1)
theorem mks_succ (f:Int→Bool) (n:Nat) (x:Int):mks f (n+1) x=(f x && mks f n (x+1)):=rfl
theorem index_is {hs:List Int} (hb:hs.length≤1000) {a:Int}:∀ (rest:List Int) (k i:Nat),hs.drop i=rest→rest.length<k→∃ j:Int,slices_Index_uint64_uint64.l0 k hs a (i:Int)=some j∧decide (j≥0)=rest.contains a
 | rest,0,i,_,h=>absurd h (by omega)
 | [],k+1,i,hd,_=>by
  have h1:hs.length≤i:=List.drop_eq_nil_iff.1 hd
  exact ⟨-1,by rw [slices_Index_uint64_uint64.l0,if_neg (by omega)],rfl⟩
 | r :: rest,k+1,i,hd,hk=>by
  obtain ⟨h1,h2,h3⟩:=drop_cons' hd
  have e1:rd hs (i:Int)=r:=by unfold rd; rw [Int.toNat_natCast,List.getD_eq_getElem?_getD,h2]; rfl
  have e2:IntKind.wrap .i64 ((i:Int)+1)=((i+1:Nat):Int):=by rw [wi64 (by omega) (by omega)]; rfl
  rw [List.length_cons] at hk
  rw [slices_Index_uint64_uint64.l0,if_pos (by omega),if_pos (by omega),e1,e2]
  by_cases h:a=r
  ·rw [if_pos h]
   exact ⟨i,rfl,by rw [decide_eq_true (by omega),h]; simp⟩
  ·rw [if_neg h]
   obtain ⟨j,h4,h5⟩:=index_is hb rest k (i+1) h3 (by omega)
   exact ⟨j,h4,by rw [h5]; simp [h]⟩
theorem contains_is {hs:List Int} (hb:hs.length≤900) (a:Int) {k:Nat} (hk:901≤k):slices_Contains_uint64_uint64.f k hs a=some (hs.contains a):=by
 obtain ⟨j,e,h⟩:=index_is (a:=a) (by omega) hs k 0 rfl (by omega)
 unfold slices_Contains_uint64_uint64.f slices_Index_uint64_uint64.f
 rw [show (0:Int)=((0:Nat):Int) from rfl,e]
 exact congrArg some h
theorem in_l0 {hs:List Int} (hb:hs.length≤1000) {a:Int}:∀ (rest:List Int) (k i:Nat),hs.drop i=rest→rest.length<k→sr21_in.l0 k hs a (i:Int)=some (rest.contains a)
 | rest,0,i,_,h=>absurd h (by omega)
 | [],k+1,i,hd,_=>by
  have h1:hs.length≤i:=List.drop_eq_nil_iff.1 hd
  rw [sr21_in.l0,if_neg (by omega)]
  rfl
 | r :: rest,k+1,i,hd,hk=>by
  obtain ⟨h1,h2,h3⟩:=drop_cons' hd
  have e1:rd hs (i:Int)=r:=by unfold rd; rw [Int.toNat_natCast,List.getD_eq_getElem?_getD,h2]; rfl
  have e2:IntKind.wrap .i64 ((i:Int)+1)=((i+1:Nat):Int):=by rw [wi64 (by omega) (by omega)]; rfl
  rw [List.length_cons] at hk
  rw [sr21_in.l0,if_pos (by omega),if_pos (by omega),e1,e2,in_l0 hb rest k (i+1) h3 (by omega)]
  by_cases h:r=a
  ·rw [if_pos h,h]; simp
  ·rw [if_neg h,List.contains_cons,show (a == r)=false from beq_eq_false_iff_ne.2 (fun e=>h e.symm)]
   rfl
theorem in_is {hs:List Int} (hb:hs.length≤900) (a:Int) {k:Nat} (hk:901≤k):sr21_in.f k hs a=some (hs.contains a) :=
 in_l0 (by omega) hs k 0 rfl (by omega)
def ylE (C:Int) (nm:Int→Bool) (nx:Int→Int):Nat→Int→Int→Int
 | 0,_,x=>x
 | m+1,j,x=>if j≤C then (if nm x=true then ylE C nm nx m (j+1) (nx x) else x) else x
section
variable {T S C H K V L:Int} {l:List Int}
def tkB (T S C H K V L:Int) (l:List Int) (h:Int):Bool:=atF T S C H K V L l (h % 4294967296) 0 == 4 * (h / 4294967296 % 1073741824)+1
def mkB (T S C H K V L:Int) (l:List Int) (i lev:Int):Bool:=decide (atF T S C H K V L l i (6+lev) / 4611686018427387904 % 2=1)
def ddB (T S C H K V L:Int) (l:List Int) (i:Int):Bool:=decide (atF T S C H K V L l i 2 % 2=1)
def lvs (T S C H K V L:Int) (l:List Int) (lev:Int):List Int:=(lvlF T S C H K V L l lev).map (·.2)
def nxF (T S C H K V L:Int) (l:List Int) (lev x:Int):Int:=atF T S C H K V L l (x % 4294967296) (6+lev)
def endF (T S C H K V L:Int) (l:List Int) (lev:Int):Int:=ylE C (nmF T S C H K V L l) (nxF T S C H K V L l lev) (C.toNat+1) 0 (atF T S C H K V L l 0 (6+lev))
def ndB (T S C H K V L:Int) (l:List Int) (h lev:Int):Bool:=tkB T S C H K V L l h && (decide (atF T S C H K V L l (h % 4294967296) 4 > lev) && (decide (atF T S C H K V L l (h % 4294967296) 4≤H) && (if mkB T S C H K V L l (h % 4294967296) lev=true then mks (mkB T S C H K V L l (h % 4294967296)) (atF T S C H K V L l (h % 4294967296) 4 - (lev+1)).toNat (lev+1) && ddB T S C H K V L l (h % 4294967296) else (lev == 0 || (lvs T S C H K V L l (lev - 1)).contains h))))
structure Wd (T S C H K V L:Int) (l:List Int):Prop where
 r:R7 T S C H K V L
 len:(l.length:Int)=lenI T S C H
 u:∀ x∈l,0≤x∧x<18446744073709551616
theorem Wd.at_ (hw:Wd T S C H K V L l) {i f:Int} (h0:0≤i) (h1:i≤C) (h2:0≤f) (h3:f<6+H):sw_at.f T S C H K V L l i f=some (atF T S C H K V L l i f):=at_eq hw.r hw.len (isF_iff.2 ⟨h0,h1,h2,h3⟩)
theorem Wd.rat (hw:Wd T S C H K V L l) {i f:Int} (h0:0≤i) (h1:i≤C) (h2:0≤f) (h3:f<6+H):sr21_at.f T S C H K V L l i f=some (atF T S C H K V L l i f):=ref_at hw.r hw.len (isF_iff.2 ⟨h0,h1,h2,h3⟩)
theorem Wd.au (hw:Wd T S C H K V L l) {i f:Int} (h0:0≤i) (h1:i≤C) (h2:0≤f) (h3:f<6+H):0≤atF T S C H K V L l i f∧atF T S C H K V L l i f<18446744073709551616:=at_u64 hw.r hw.len hw.u (isF_iff.2 ⟨h0,h1,h2,h3⟩)
theorem Wd.ok (hw:Wd T S C H K V L l) {lev:Int} (h0:0≤lev) (h1:lev<H):okB T S C H K V L l lev=true:=okB_iff.2 ⟨hw.r,hw.len,h0,h1,fun x hx=>(hw.u x hx).1⟩
theorem Wd.len_ (hw:Wd T S C H K V L l) {lev:Int} (h0:0≤lev) (h1:lev<H):(lvs T S C H K V L l lev).length≤65:=by
 unfold lvs
 rw [List.length_map]
 exact lvl_len (hw.ok h0 h1)
theorem plF_u (x:Int):0≤plF x∧plF x<18446744073709551616:=by
 have key:∀ n:Nat,n<18446744073709551616→0≤(some (IntKind.wrap .u64 (n:Int))).getD 0∧(some (IntKind.wrap .u64 (n:Int))).getD 0<18446744073709551616:=fun n hn=>by
  rw [wu64 (by omega) (by omega)]
  refine ⟨Int.natCast_nonneg n,?_⟩
  show (n:Int)<18446744073709551616
  omega
 exact key _ (BitVec.isLt _)
theorem Wd.mem (hw:Wd T S C H K V L l) {lev h:Int} (hm:h∈lvs T S C H K V L l lev):0≤h∧h<18446744073709551616∧1≤h % 4294967296∧h % 4294967296≤C:=by
 unfold lvs at hm
 obtain ⟨p,hp,rfl⟩:=List.mem_map.1 hm
 have h1:=lvl_mem hp
 obtain ⟨_,_,y,_,h4⟩:=ylF_mem _ _ _ (Int.le_refl 0) p hp
 have:=plF_u y
 rw [← h4] at this
 exact ⟨this.1,this.2,h1.2.2.1,h1.2.2.2⟩
theorem Wd.level (hw:Wd T S C H K V L l) {k:Nat} (hk:1000≤k) {lev:Int} (h0:0≤lev) (h1:lev<H):shape_Level.f k T S C H K V L l lev=some (lvs T S C H K V L l lev):=by
 rw [Level_is hk T S C H K V L l (fun x hx=>(hw.u x hx).1) lev,if_pos (hw.ok h0 h1)]
 rfl
theorem Wd.rlevel_l0 (hw:Wd T S C H K V L l) {lev:Int} (h0:0≤lev) (h1:lev<H):∀ (m k:Nat) (x:Int) (xs:List Int),C+1 - xs.length=m→m<k→0≤x→x<18446744073709551616 →
  sr21_Level.l0 k T S C H K V L l lev x xs=some (xs ++ (ylF C (nmF T S C H K V L l) plF (nxF T S C H K V L l lev) m xs.length x).map (·.2),ylE C (nmF T S C H K V L l) (nxF T S C H K V L l lev) m xs.length x)
 | 0,0,x,xs,_,h,_,_=>absurd h (by decide)
 | m+1,0,x,xs,_,h,_,_=>absurd h (by omega)
 | 0,k+1,x,xs,hm,_,_,_=>by rw [sr21_Level.l0,if_neg (by omega)]; simp [ylF,ylE]
 | m+1,k+1,x,xs,hm,hk,hx0,hx1=>by
  have hC:=hw.r.c
  have hH:=hw.r.h
  have ey:ylF C (nmF T S C H K V L l) plF (nxF T S C H K V L l lev) (m+1) xs.length x=if nmF T S C H K V L l x=true then ((xs.length:Int),plF x) :: ylF C (nmF T S C H K V L l) plF (nxF T S C H K V L l lev) m (xs.length+1) (nxF T S C H K V L l lev x) else []:=by rw [ylF,if_pos (by omega)]
  have ee:ylE C (nmF T S C H K V L l) (nxF T S C H K V L l lev) (m+1) xs.length x=if nmF T S C H K V L l x=true then ylE C (nmF T S C H K V L l) (nxF T S C H K V L l lev) m (xs.length+1) (nxF T S C H K V L l lev x) else x:=by rw [ylE,if_pos (by omega)]
  rw [sr21_Level.l0,if_pos (by omega),ref_index hx0,ref_valid,ey,ee,nm_is hx0 hx1,ref_plain hx0 hx1]
  simp only [Option.bind_some]
  by_cases h2:x≥9223372036854775808
  ·rw [decide_eq_true h2]
   by_cases h3:x % 4294967296<1
   ·rw [decide_eq_false (show ¬ x % 4294967296≥1 by omega)]
    simp [h3]
   ·rw [decide_eq_true (show x % 4294967296≥1 by omega)]
    by_cases h4:x % 4294967296 > C
    ·rw [decide_eq_false (show ¬ x % 4294967296≤C by omega)]
     simp [h3,h4]
    ·rw [decide_eq_true (show x % 4294967296≤C by omega)]
     have hb:=hw.au (i:=x % 4294967296) (f:=6+lev) (by omega) (by omega) (by omega) (by omega)
     have ih:=hw.rlevel_l0 h0 h1 m k (atF T S C H K V L l (x % 4294967296) (6+lev)) (xs ++ [plF x]) (by rw [List.length_append,List.length_singleton]; omega) (by omega) hb.1 hb.2
     rw [if_pos rfl,if_neg h3,decide_eq_false h4]
     simp only [Option.bind_some,Bool.false_eq_true,if_false]
     rw [if_pos (by omega),wi64 (n:=6+lev) (by omega) (by omega),hw.rat (by omega) (by omega) (by omega) (by omega)]
     simp only [Option.bind_some]
     rw [ih,List.length_append,List.length_singleton]
     simp [nxF]
  ·rw [decide_eq_false h2]
   simp
theorem nx_fun (hw:Wd T S C H K V L l) {lev:Int} (h0:0≤lev) (h1:lev<H):(fun x=>atF T S C H K V L l (x % 4294967296) (IntKind.wrap .i64 (6+lev)))=nxF T S C H K V L l lev:=by
 have hH:=hw.r.h
 rw [wi64 (n:=6+lev) (by omega) (by omega)]
 rfl
theorem Wd.lv (hw:Wd T S C H K V L l) {lev:Int} (h0:0≤lev) (h1:lev<H):lvlF T S C H K V L l lev=ylF C (nmF T S C H K V L l) plF (nxF T S C H K V L l lev) (C.toNat+1) 0 (atF T S C H K V L l 0 (6+lev)):=by
 have hH:=hw.r.h
 unfold lvlF
 rw [nx_fun hw h0 h1,wi64 (n:=6+lev) (by omega) (by omega)]
theorem Wd.rwhole (hw:Wd T S C H K V L l):sr21_whole.f T S C H K V L l=some true:=by
 unfold sr21_whole.f
 rw [ref04_Right_is,ref04_Len_is,r7_iff.2 hw.r]
 simp only [Option.bind_some,if_true]
 rw [show ((l.length:Int) == lenI T S C H)=true by simpa using hw.len]
theorem Wd.rlevel (hw:Wd T S C H K V L l) {k:Nat} (hk:100≤k) {lev:Int} (h0:0≤lev) (h1:lev<H):sr21_Level.f k T S C H K V L l lev=some (lvs T S C H K V L l lev,endF T S C H K V L l lev):=by
 have hC:=hw.r.c
 have hH:=hw.r.h
 have hb:=hw.au (i:=0) (f:=6+lev) (by omega) (by omega) (by omega) (by omega)
 unfold sr21_Level.f
 rw [hw.rwhole]
 simp only [Option.bind_some,if_true]
 rw [if_neg (by omega),decide_eq_false (show ¬ lev≥H by omega)]
 simp only [Option.bind_some,Bool.false_eq_true,if_false]
 rw [wi64 (n:=6+lev) (by omega) (by omega),hw.rat (by omega) (by omega) (by omega) (by omega)]
 simp only [Option.bind_some]
 rw [hw.rlevel_l0 h0 h1 (C.toNat+1) k _ [] (by simp only [List.length_nil]; omega) (by omega) hb.1 hb.2]
 unfold lvs
 rw [hw.lv h0 h1]
 rfl
theorem Wd.taken (hw:Wd T S C H K V L l) {h:Int} (h1:0≤h % 4294967296) (h2:h % 4294967296≤C):sw_taken.f T S C H K V L l h=some (tkB T S C H K V L l h):=by
 have hH:=hw.r.h
 unfold sw_taken.f
 rw [meta_is (by omega) (by omega),hw.at_ h1 h2 (by omega) (by omega)]
 rfl
theorem Wd.marked (hw:Wd T S C H K V L l) {h lev:Int} (h1:0≤h % 4294967296) (h2:h % 4294967296≤C) (h3:0≤lev) (h4:lev<H):sw_marked.f T S C H K V L l h lev=some (mkB T S C H K V L l (h % 4294967296) lev):=by
 have hH:=hw.r.h
 have hb:=hw.au (i:=h % 4294967296) (f:=6+lev) h1 h2 (by omega) (by omega)
 unfold sw_marked.f
 rw [wi64 (n:=6+lev) (by omega) (by omega),hw.at_ h1 h2 (by omega) (by omega)]
 simp only [Option.bind_some]
 rw [marked_is hb.1 hb.2]
 rfl
theorem Wd.rmarked (hw:Wd T S C H K V L l) {i lev:Int} (h1:0≤i) (h2:i≤C) (h3:0≤lev) (h4:lev<H):sr21_marked.f T S C H K V L l i lev=some (mkB T S C H K V L l i lev):=by
 have hH:=hw.r.h
 have hb:=hw.au (i:=i) (f:=6+lev) h1 h2 (by omega) (by omega)
 unfold sr21_marked.f
 rw [wi64 (n:=6+lev) (by omega) (by omega),hw.rat h1 h2 (by omega) (by omega)]
 simp only [Option.bind_some]
 rw [ref_marked hb.1 hb.2]
 rfl
theorem Wd.dead (hw:Wd T S C H K V L l) {i:Int} (h1:0≤i) (h2:i≤C):((sw_at.f T S C H K V L l i 2).bind fun t=>slot_Dead.f t)=some (ddB T S C H K V L l i):=by
 have hH:=hw.r.h
 have hb:=hw.au (i:=i) (f:=2) h1 h2 (by omega) (by omega)
 rw [hw.at_ h1 h2 (by omega) (by omega)]
 simp only [Option.bind_some]
 rw [dead_is hb.1 hb.2]
 rfl
theorem Wd.rdead (hw:Wd T S C H K V L l) {i:Int} (h1:0≤i) (h2:i≤C):((sr21_at.f T S C H K V L l i 2).bind fun t=>sr02_Dead.f t)=some (ddB T S C H K V L l i):=by
 have hH:=hw.r.h
 have hb:=hw.au (i:=i) (f:=2) h1 h2 (by omega) (by omega)
 rw [hw.rat h1 h2 (by omega) (by omega)]
 simp only [Option.bind_some]
 rw [ref_dead hb.1]
 rfl
theorem Wd.node_l0 (hw:Wd T S C H K V L l) {h t:Int} (h1:0≤h % 4294967296) (h2:h % 4294967296≤C) (ht0:0≤t) (ht:t≤H):∀ (m k:Nat) (x:Int),0≤x→(t - x).toNat=m→m<k→sw_node.l0 k T S C H K V L l h t x=some (mks (mkB T S C H K V L l (h % 4294967296)) m x && ddB T S C H K V L l (h % 4294967296))
 | m,0,x,_,_,h=>absurd h (by omega)
 | 0,k+1,x,hx,hm,hk=>by
  have hH:=hw.r.h
  have hd:=hw.dead h1 h2
  rw [sw_node.l0,if_neg (by rw [wi64 (n:=t) (by omega) (by omega)]; omega)]
  have e:((sw_at.f T S C H K V L l (h % 4294967296) 2).bind fun t110_=>(slot_Dead.f t110_).bind fun t112_=>some t112_)=some (ddB T S C H K V L l (h % 4294967296)):=by
   rw [← hd]; rfl
  rw [e]
  rfl
 | m+1,k+1,x,hx,hm,hk=>by
  have hH:=hw.r.h
  rw [sw_node.l0,if_pos (by rw [wi64 (n:=t) (by omega) (by omega)]; omega),hw.marked h1 h2 hx (by omega),wi64 (n:=x+1) (by omega) (by omega)]
  simp only [Option.bind_some]
  rw [hw.node_l0 h1 h2 ht0 ht m k (x+1) (by omega) (by omega) (by omega),mks_succ]
  cases mkB T S C H K V L l (h % 4294967296) x <;> rfl
end
end Go.Eng
namespace Go.Eng
open Go.Proofs Go.RowKit Go.Proofs.YtgbcnokeaaabfaaGreatW.PrintWords
set_option linter.unusedVariables false
set_option linter.unusedSimpArgs false
section
variable {T S C H K V L:Int} {l:List Int}
theorem Wd.node (hw:Wd T S C H K V L l) {h lev:Int} (hx0:0≤h) (hx1:h<18446744073709551616) (h1:1≤h % 4294967296) (h2:h % 4294967296≤C) (h3:0≤lev) (h4:lev<H) {k:Nat} (hk:1500≤k):sw_node.f k T S C H K V L l h lev=some (ndB T S C H K V L l h lev):=by
 have hH:=hw.r.h
 have hb:=hw.au (i:=h % 4294967296) (f:=4) (by omega) h2 (by omega) (by omega)
 unfold sw_node.f ndB
 rw [hw.at_ (by omega) h2 (by omega) (by omega)]
 generalize atF T S C H K V L l (h % 4294967296) 4=t at hb
 simp only [Option.bind_some]
 rw [hw.taken (by omega) h2,wu64 (n:=lev) (by omega) (by omega),wu64 (n:=H) (by omega) (by omega)]
 simp only [Option.bind_some]
 cases tkB T S C H K V L l h with
 | false=>rfl
 | true =>
  rw [if_pos rfl]
  by_cases q1:t≤lev
  ·rw [if_pos q1,decide_eq_false (show ¬ t > lev by omega)]
   rfl
  ·rw [if_neg q1,decide_eq_true (show t > lev by omega)]
   by_cases q2:t > H
   ·rw [decide_eq_true q2,decide_eq_false (show ¬ t≤H by omega)]
    rfl
   ·rw [decide_eq_false q2,decide_eq_true (show t≤H by omega)]
    simp only [Option.bind_some,Bool.false_eq_true,if_false,Bool.true_and]
    rw [hw.marked (by omega) h2 h3 h4,wi64 (n:=lev+1) (by omega) (by omega),wi64 (n:=lev - 1) (by omega) (by omega)]
    simp only [Option.bind_some]
    cases mkB T S C H K V L l (h % 4294967296) lev with
    | true =>
     rw [if_pos rfl,if_pos rfl]
     exact hw.node_l0 (by omega) h2 (by omega) (by omega) _ k (lev+1) (by omega) rfl (by omega)
    | false =>
     simp only [Bool.false_eq_true,if_false]
     by_cases q3:lev=0
     ·rw [if_pos q3,q3]
      rfl
     ·have hlen:=hw.len_ (lev:=lev - 1) (by omega) (by omega)
      rw [if_neg q3,hw.level (by omega) (by omega) (by omega)]
      simp only [Option.bind_some]
      rw [contains_is (by omega) h (by omega),show (lev == 0)=false from beq_eq_false_iff_ne.2 q3]
      rfl
theorem Wd.rnode_l0 (hw:Wd T S C H K V L l) {i t:Int} (h1:0≤i) (h2:i≤C) (ht0:0≤t) (ht:t≤H):∀ (m k:Nat) (x:Int),0≤x→(t - x).toNat=m→m<k→sr21_node.l0 k T S C H K V L l i t x=some (mks (mkB T S C H K V L l i) m x && ddB T S C H K V L l i)
 | m,0,x,_,_,h=>absurd h (by omega)
 | 0,k+1,x,hx,hm,hk=>by
  have hH:=hw.r.h
  have hd:=hw.rdead h1 h2
  rw [sr21_node.l0,if_neg (by rw [wi64 (n:=t) (by omega) (by omega)]; omega)]
  have e:((sr21_at.f T S C H K V L l i 2).bind fun t131_=>(sr02_Dead.f t131_).bind fun t133_=>some t133_)=some (ddB T S C H K V L l i):=by
   rw [← hd]; rfl
  rw [e]
  rfl
 | m+1,k+1,x,hx,hm,hk=>by
  have hH:=hw.r.h
  rw [sr21_node.l0,if_pos (by rw [wi64 (n:=t) (by omega) (by omega)]; omega),hw.rmarked h1 h2 hx (by omega),wi64 (n:=x+1) (by omega) (by omega)]
  simp only [Option.bind_some]
  rw [hw.rnode_l0 h1 h2 ht0 ht m k (x+1) (by omega) (by omega) (by omega),mks_succ]
  cases mkB T S C H K V L l i x <;> rfl
theorem Wd.rneg (hw:Wd T S C H K V L l) (k:Nat):sr21_Level.f k T S C H K V L l (-1)=some ([],0):=by
 unfold sr21_Level.f
 rw [hw.rwhole]
 rfl
theorem Wd.rnode (hw:Wd T S C H K V L l) {h lev:Int} (hx0:0≤h) (hx1:h<18446744073709551616) (h1:1≤h % 4294967296) (h2:h % 4294967296≤C) (h3:0≤lev) (h4:lev<H) {k:Nat} (hk:1500≤k):sr21_node.f k T S C H K V L l h lev=some (ndB T S C H K V L l h lev):=by
 have hH:=hw.r.h
 have hb:=hw.au (i:=h % 4294967296) (f:=4) (by omega) h2 (by omega) (by omega)
 unfold sr21_node.f ndB
 rw [ref_index hx0]
 simp only [Option.bind_some]
 rw [hw.rat (by omega) h2 (by omega) (by omega),ref_gen hx0 hx1]
 simp only [Option.bind_some]
 rw [ref_taken (by omega) (by omega)]
 simp only [Option.bind_some]
 by_cases q0:atF T S C H K V L l (h % 4294967296) 0=4 * (h / 4294967296 % 1073741824)+1
 ·rw [if_pos q0,show tkB T S C H K V L l h=true from beq_iff_eq.2 q0,hw.rat (by omega) h2 (by omega) (by omega)]
  generalize atF T S C H K V L l (h % 4294967296) 4=t at hb
  simp only [Option.bind_some]
  rw [wu64 (n:=lev) (by omega) (by omega),wu64 (n:=H) (by omega) (by omega)]
  by_cases q1:t≤lev
  ·rw [if_pos q1,decide_eq_false (show ¬ t > lev by omega)]
   rfl
  ·rw [if_neg q1,decide_eq_true (show t > lev by omega)]
   by_cases q2:t > H
   ·rw [decide_eq_true q2,decide_eq_false (show ¬ t≤H by omega)]
    rfl
   ·rw [decide_eq_false q2,decide_eq_true (show t≤H by omega)]
    simp only [Option.bind_some,Bool.false_eq_true,if_false,Bool.true_and]
    rw [hw.rmarked (by omega) h2 h3 h4,wi64 (n:=lev - 1) (by omega) (by omega)]
    simp only [Option.bind_some]
    cases hm:mkB T S C H K V L l (h % 4294967296) lev with
    | true =>
     rw [if_pos rfl,if_pos rfl,hw.rnode_l0 (by omega) h2 (by omega) (by omega) ((t - (lev+1)).toNat+1) k lev h3 (by omega) (by omega),mks_succ,hm]
     rfl
    | false =>
     rw [if_neg (by decide),if_neg (by decide)]
     by_cases q3:lev=0
     ·rw [q3,show (0:Int) - 1 = -1 from rfl,hw.rneg k]
      rfl
     ·have hlen:=hw.len_ (lev:=lev - 1) (by omega) (by omega)
      rw [hw.rlevel (by omega) (by omega) (by omega)]
      simp only [Option.bind_some]
      rw [if_neg q3,in_is (by omega) h (by omega),show (lev == 0)=false from beq_eq_false_iff_ne.2 q3]
      rfl
 ·rw [if_neg q0,show tkB T S C H K V L l h=false from beq_eq_false_iff_ne.2 q0]
  rfl
def rlB (T S C H K V L:Int) (l:List Int) (lev:Int):Bool→Int→List Int→Bool
 | _,_,[]=>true
 | f,key,h :: t=>(f || decide (key<atF T S C H K V L l (h % 4294967296) 1)) && (ndB T S C H K V L l h lev && rlB T S C H K V L l lev false (atF T S C H K V L l (h % 4294967296) 1) t)
def rgB (T S C H K V L:Int) (l:List Int) (lev:Int):Bool:=!mkB T S C H K V L l 0 lev && (decide (((lvs T S C H K V L l lev).length:Int)≤C) && (!decide (endF T S C H K V L l lev≥9223372036854775808) && rlB T S C H K V L l lev true 0 (lvs T S C H K V L l lev)))
theorem Wd.right_rng (hw:Wd T S C H K V L l) {lev:Int} (h0:0≤lev) (h1:lev<H) {k:Nat} (hk:1500≤k):∀ (m:Nat) (j x key:Int),C+1 - j=m→0≤j→j≤C→0≤x→x<18446744073709551616 →
  rng (sw_right.b0 k T S C H K V L l lev) (ylF C (nmF T S C H K V L l) plF (nxF T S C H K V L l lev) m j x) (fun (x61_,x62_)=>(handle_Valid.f x62_).bind fun t140_=>some (!t140_)) (key,x)=some (decide (j+((ylF C (nmF T S C H K V L l) plF (nxF T S C H K V L l lev) m j x).length:Int)≤C) && (!decide (ylE C (nmF T S C H K V L l) (nxF T S C H K V L l lev) m j x≥9223372036854775808) && rlB T S C H K V L l lev (j == 0) key ((ylF C (nmF T S C H K V L l) plF (nxF T S C H K V L l lev) m j x).map (·.2))))
 | 0,j,x,key,hm,hj,hjC,_,_=>absurd hm (by omega)
 | m+1,j,x,key,hm,hj,hjC,hx0,hx1=>by
  have hC:=hw.r.c
  have hH:=hw.r.h
  rw [ylF,ylE,if_pos hjC,if_pos hjC]
  by_cases hn:nmF T S C H K V L l x=true
  ·rw [if_pos hn,if_pos hn]
   have hix:=names_ix hn
   have hp:=plF_u x
   have hpi:plF x % 4294967296=x % 4294967296:=plF_ix x
   have hbn:=hw.au (i:=x % 4294967296) (f:=6+lev) (by omega) hix.2 (by omega) (by omega)
   have step:∀ κ:(Int × Int)→Option Bool,sw_right.b0 k T S C H K V L l lev κ j (plF x) (key,x)=if ((j == 0 || decide (key<atF T S C H K V L l (x % 4294967296) 1)) && (decide (j<C) && ndB T S C H K V L l (plF x) lev))=true then κ (atF T S C H K V L l (x % 4294967296) 1,nxF T S C H K V L l lev x) else some false:=by
    intro κ
    unfold sw_right.b0
    dsimp only
    rw [hpi,wi64 (n:=6+lev) (by omega) (by omega),hw.at_ (f:=1) (by omega) hix.2 (by omega) (by omega),hw.at_ (f:=6+lev) (by omega) hix.2 (by omega) (by omega),hw.node hp.1 hp.2 (by omega) (by omega) h0 h1 hk]
    simp only [Option.bind_some]
    have ej:((if j=0 then some true else some (decide (key<atF T S C H K V L l (x % 4294967296) 1))):Option Bool)=some (j == 0 || decide (key<atF T S C H K V L l (x % 4294967296) 1)):=by
     by_cases hz:j=0
     ·rw [if_pos hz,hz]; rfl
     ·rw [if_neg hz,show (j == 0)=false from beq_eq_false_iff_ne.2 hz]; rfl
    rw [ej]
    simp only [Option.bind_some]
    by_cases q:j≥C
    ·rw [if_pos q,decide_eq_false (show ¬ j<C by omega)]
     simp
    ·rw [if_neg q,decide_eq_true (show j<C by omega)]
     cases (j == 0 || decide (key<atF T S C H K V L l (x % 4294967296) 1)) <;> cases ndB T S C H K V L l (plF x) lev <;> rfl
   have unf:∀ (ys:List (Int × Int)) (fin:Int × Int→Option Bool) (p:Int × Int) (s:Int × Int),rng (sw_right.b0 k T S C H K V L l lev) (p :: ys) fin s=sw_right.b0 k T S C H K V L l lev (fun s'=>rng (sw_right.b0 k T S C H K V L l lev) ys fin s') p.1 p.2 s:=fun _ _ _ _=>rfl
   rw [unf,step,List.map_cons,List.length_cons]
   show _=some (_ && (_ && ((j == 0 || decide (key<atF T S C H K V L l (plF x % 4294967296) 1)) && (ndB T S C H K V L l (plF x) lev && rlB T S C H K V L l lev false (atF T S C H K V L l (plF x % 4294967296) 1) _))))
   rw [hpi]
   by_cases q:j<C
   ·have ih:=hw.right_rng h0 h1 hk m (j+1) (nxF T S C H K V L l lev x) (atF T S C H K V L l (x % 4294967296) 1) (by omega) (by omega) (by omega) hbn.1 hbn.2
    rw [ih,decide_eq_true q,show (j+1 == 0)=false from beq_eq_false_iff_ne.2 (by omega)]
    generalize (ylF C (nmF T S C H K V L l) plF (nxF T S C H K V L l lev) m (j+1) (nxF T S C H K V L l lev x))=ys
    rw [show decide (j+((ys.length+1:Nat):Int)≤C)=decide (j+1+(ys.length:Int)≤C) from by rw [Bool.eq_iff_iff,decide_eq_true_eq,decide_eq_true_eq]; omega]
    cases (j == 0 || decide (key<atF T S C H K V L l (x % 4294967296) 1)) <;> cases ndB T S C H K V L l (plF x) lev <;> simp
   ·rw [decide_eq_false q,decide_eq_false (show ¬ j+(((ylF C (nmF T S C H K V L l) plF (nxF T S C H K V L l lev) m (j+1) (nxF T S C H K V L l lev x)).length+1:Nat):Int)≤C by omega)]
    simp
  ·rw [if_neg hn,if_neg hn]
   have e:rng (sw_right.b0 k T S C H K V L l lev) ([]:List (Int × Int)) (fun (x61_,x62_)=>(handle_Valid.f x62_).bind fun t140_=>some (!t140_)) (key,x)=(handle_Valid.f x).bind fun t140_=>some (!t140_):=rfl
   rw [e,valid_is hx0 hx1]
   simp only [Option.bind_some,List.length_nil,List.map_nil]
   rw [decide_eq_true (show j+((0:Nat):Int)≤C by omega)]
   simp [rlB]
theorem Wd.right (hw:Wd T S C H K V L l) {lev:Int} (h0:0≤lev) (h1:lev<H) {k:Nat} (hk:1500≤k):sw_right.f k T S C H K V L l lev=some (rgB T S C H K V L l lev):=by
 have hC:=hw.r.c
 have hH:=hw.r.h
 have hb:=hw.au (i:=0) (f:=6+lev) (by omega) (by omega) (by omega) (by omega)
 unfold sw_right.f rgB
 rw [wi64 (n:=6+lev) (by omega) (by omega),hw.at_ (by omega) (by omega) (by omega) (by omega)]
 simp only [Option.bind_some]
 rw [marked_is hb.1 hb.2,if_pos (hw.ok h0 h1),if_pos (show 1000≤k by omega)]
 simp only [Option.bind_some]
 show (if mkB T S C H K V L l 0 lev=true then _ else _)=_
 cases mkB T S C H K V L l 0 lev with
 | true=>rfl
 | false =>
  rw [if_neg (by decide),hw.lv h0 h1,hw.right_rng h0 h1 hk (C.toNat+1) 0 _ 0 (by omega) (by omega) (by omega) hb.1 hb.2]
  unfold lvs
  rw [hw.lv h0 h1,List.length_map,Int.zero_add]
  rfl
theorem Wd.right_l0 (hw:Wd T S C H K V L l):∀ (m k:Nat) (x:Int),0≤x→(H - x).toNat=m→m+1600≤k→shape_Right.l0 k T S C H K V L l x=some (mks (rgB T S C H K V L l) m x)
 | m,0,x,_,_,h=>absurd h (by omega)
 | 0,k+1,x,hx,hm,hk=>by rw [shape_Right.l0,if_neg (by omega)]; rfl
 | m+1,k+1,x,hx,hm,hk=>by
  have hH:=hw.r.h
  rw [shape_Right.l0,if_pos (by omega),hw.right hx (by omega) (by omega),wi64 (n:=x+1) (by omega) (by omega)]
  simp only [Option.bind_some]
  rw [hw.right_l0 m k (x+1) (by omega) (by omega) (by omega),mks_succ]
  cases rgB T S C H K V L l x <;> rfl
def RightB (T S C H K V L:Int) (l:List Int):Bool:=(atF T S C H K V L l 0 0 == 1) && mks (rgB T S C H K V L l) H.toNat 0
theorem Wd.Right (hw:Wd T S C H K V L l) {k:Nat} (hk:2000≤k):shape_Right.f k T S C H K V L l=some (RightB T S C H K V L l):=by
 have hC:=hw.r.c
 have hH:=hw.r.h
 unfold shape_Right.f RightB
 rw [whole_is,r7_iff.2 hw.r,decide_eq_true hw.len,hw.taken (h:=9223372036854775808) (by decide) (by rw [show (9223372036854775808:Int) % 4294967296=0 by decide]; omega),hw.right_l0 H.toNat k 0 (Int.le_refl _) (by omega) (by omega)]
 simp only [Bool.and_self,Option.bind_some,if_true]
 have e:tkB T S C H K V L l 9223372036854775808=(atF T S C H K V L l 0 0 == 1):=by
  unfold tkB
  rw [show (9223372036854775808:Int) % 4294967296=0 by decide,show (4:Int) * (9223372036854775808 / 4294967296 % 1073741824)+1=1 by decide]
 rw [e]
 cases (atF T S C H K V L l 0 0 == 1) <;> rfl
theorem Wd.rright_l1 (hw:Wd T S C H K V L l) {lev:Int} (h0:0≤lev) (h1:lev<H) {ys:List Int} (hys:ys.length≤100) (hm:∀ h∈ys,0≤h∧h<18446744073709551616∧1≤h % 4294967296∧h % 4294967296≤C) {k:Nat} (hk:1500≤k):∀ (rest:List Int) (i:Nat) (key:Int),ys.drop i=rest→(0<i→∃ p,ys[i - 1]?=some p∧key=atF T S C H K V L l (p % 4294967296) 1) →
  sr21_Right.l1 (rest.length+1+k) T S C H K V L l lev ys (i:Int)=if rlB T S C H K V L l lev ((i:Int) == 0) key rest=true then sr21_Right.l0 k T S C H K V L l (lev+1) else some false
 | [],i,key,hd,hkey=>by
  have hH:=hw.r.h
  have hl:ys.length≤i:=List.drop_eq_nil_iff.1 hd
  rw [show ([]:List Int).length+1+k=k+1 by simp; omega,sr21_Right.l1,if_neg (by omega),wi64 (n:=lev+1) (by omega) (by omega)]
  rfl
 | h :: rest,i,key,hd,hkey=>by
  have hH:=hw.r.h
  obtain ⟨hi,hg,hr⟩:=drop_cons' hd
  have e1:rd ys (i:Int)=h:=by unfold rd; rw [Int.toNat_natCast,List.getD_eq_getElem?_getD,hg]; rfl
  have hh:=hm h (List.mem_of_getElem? hg)
  have ih:=hw.rright_l1 h0 h1 hys hm hk rest (i+1) (atF T S C H K V L l (h % 4294967296) 1) hr (fun _=>⟨h,by rw [Nat.add_sub_cancel]; exact hg,rfl⟩)
  rw [show (h :: rest).length+1+k=(rest.length+1+k)+1 by rw [List.length_cons]; omega,sr21_Right.l1,if_pos (by omega),if_pos (by omega),e1,hw.rnode hh.1 hh.2.1 hh.2.2.1 hh.2.2.2 h0 h1 (by omega),show IntKind.wrap .i64 ((i:Int)+1)=((i+1:Nat):Int) by rw [wi64 (by omega) (by omega)]; rfl,ih,show (((i+1:Nat):Int) == 0)=false from beq_eq_false_iff_ne.2 (by omega)]
  simp only [Option.bind_some]
  show _=if (((i:Int) == 0 || decide (key<atF T S C H K V L l (h % 4294967296) 1)) && (ndB T S C H K V L l h lev && rlB T S C H K V L l lev false (atF T S C H K V L l (h % 4294967296) 1) rest))=true then _ else _
  cases ndB T S C H K V L l h lev with
  | false=>simp
  | true =>
   rw [if_pos rfl]
   by_cases hz:(i:Int) > 0
   ·obtain ⟨p,hp,hkp⟩:=hkey (by omega)
    have hpm:=hm p (List.mem_of_getElem? hp)
    have e2:rd ys ((i:Int) - 1)=p:=by unfold rd; rw [show ((i:Int) - 1).toNat=i - 1 by omega,List.getD_eq_getElem?_getD,hp]; rfl
    rw [if_pos hz,wi64 (n:=(i:Int) - 1) (by omega) (by omega),if_pos (by omega),if_pos (by omega),e2,ref_index hpm.1]
    simp only [Option.bind_some]
    rw [hw.rat (by omega) hpm.2.2.2 (by omega) (by omega),ref_index hh.1]
    simp only [Option.bind_some]
    rw [hw.rat (by omega) hh.2.2.2 (by omega) (by omega),← hkp,show ((i:Int) == 0)=false from beq_eq_false_iff_ne.2 (by omega)]
    simp only [Option.bind_some]
    by_cases hlt:key<atF T S C H K V L l (h % 4294967296) 1
    ·rw [decide_eq_true hlt,decide_eq_false (show ¬ key≥atF T S C H K V L l (h % 4294967296) 1 by omega)]
     rfl
    ·rw [decide_eq_false hlt,decide_eq_true (show key≥atF T S C H K V L l (h % 4294967296) 1 by omega)]
     rfl
   ·rw [if_neg hz,show ((i:Int) == 0)=true from beq_iff_eq.2 (by omega)]
    rfl
theorem Wd.rright_l0 (hw:Wd T S C H K V L l):∀ (m k:Nat) (x:Int),0≤x→(H - x).toNat=m→70 * m+1600≤k→sr21_Right.l0 k T S C H K V L l x=some (mks (rgB T S C H K V L l) m x)
 | m,0,x,_,_,h=>absurd h (by omega)
 | 0,k+1,x,hx,hm,hk=>by rw [sr21_Right.l0,if_neg (by omega)]; rfl
 | m+1,k+1,x,hx,hm,hk=>by
  have hC:=hw.r.c
  have hH:=hw.r.h
  have hlen:=hw.len_ hx (show x<H by omega)
  rw [sr21_Right.l0,if_pos (by omega),hw.rlevel (by omega) hx (by omega),mks_succ]
  simp only [Option.bind_some]
  rw [hw.rmarked (by omega) (by omega) hx (by omega),ref_valid]
  simp only [Option.bind_some]
  unfold rgB
  cases mkB T S C H K V L l 0 x with
  | true=>rfl
  | false =>
   rw [if_neg (by decide)]
   by_cases q:((lvs T S C H K V L l x).length:Int) > C
   ·rw [if_pos q,decide_eq_false (show ¬ ((lvs T S C H K V L l x).length:Int)≤C by omega)]
    rfl
   ·rw [if_neg q,decide_eq_true (show ((lvs T S C H K V L l x).length:Int)≤C by omega)]
    simp only [Option.bind_some]
    cases decide (endF T S C H K V L l x≥9223372036854775808) with
    | true=>rfl
    | false =>
     rw [if_neg (by decide)]
     obtain ⟨k',rfl⟩:∃ k',k=(lvs T S C H K V L l x).length+1+k':=⟨k - (lvs T S C H K V L l x).length - 1,by omega⟩
     have:=hw.rright_l1 hx (show x<H by omega) (ys:=lvs T S C H K V L l x) (by omega) (fun h hh=>hw.mem hh) (k:=k') (by omega) (lvs T S C H K V L l x) 0 0 rfl (fun h=>absurd h (by decide))
     rw [show ((0:Nat):Int)=0 from rfl] at this
     rw [this,hw.rright_l0 m k' (x+1) (by omega) (by omega) (by omega)]
     show (if rlB T S C H K V L l x true 0 (lvs T S C H K V L l x)=true then _ else _)=_
     cases rlB T S C H K V L l x true 0 (lvs T S C H K V L l x) <;> rfl
theorem Wd.rRight (hw:Wd T S C H K V L l) {k:Nat} (hk:2100≤k):sr21_Right.f k T S C H K V L l=some (RightB T S C H K V L l):=by
 have hC:=hw.r.c
 have hH:=hw.r.h
 unfold sr21_Right.f RightB
 rw [hw.rwhole,hw.rat (by omega) (by omega) (by omega) (by omega),ref_taken (by decide) (by decide),hw.rright_l0 H.toNat k 0 (Int.le_refl _) (by omega) (by omega)]
 simp only [Option.bind_some,if_true]
 rw [show (4:Int) * 0+1=1 from rfl]
 by_cases q:atF T S C H K V L l 0 0=1
 ·rw [q]; rfl
 ·rw [show (atF T S C H K V L l 0 0 != 1)=true by simpa using q,show (atF T S C H K V L l 0 0 == 1)=false from beq_eq_false_iff_ne.2 q]
  rfl
end
end Go.Eng
namespace Go.Eng
open Go.Proofs Go.RowKit Go.Proofs.YtgbcnokeaaabfaaGreatW.PrintWords
set_option linter.unusedVariables false
set_option linter.unusedSimpArgs false
theorem mks_iff {f:Int→Bool}:∀ {n:Nat} {x:Int},mks f n x=true↔∀ y,x≤y→y<x+n→f y=true
 | 0,x=>⟨fun _ y h1 h2=>absurd h1 (by omega),fun _=>rfl⟩
 | n+1,x=>by
  rw [mks_succ,Bool.and_eq_true,mks_iff]
  refine ⟨fun ⟨h1,h2⟩ y h3 h4=>?_,fun h=>⟨h x (Int.le_refl x) (by omega),fun y h1 h2=>h y (by omega) (by omega)⟩⟩
  by_cases e:y=x
  ·rw [e]; exact h1
  ·exact h2 y (by omega) (by omega)
theorem bit3 (b:BitVec 64):(b &&& BitVec.ofInt 64 3).toNat=b.toNat % 4:=by
 rw [BitVec.toNat_and,show (BitVec.ofInt 64 3).toNat=2 ^ 2 - 1 by decide,Nat.and_two_pow_sub_one_eq_mod]
theorem state_is {x:Int} (h0:0≤x) (h1:x<18446744073709551616):slot_State.f x=some (x % 4):=by
 have e:=ofInt_nat h0 h1
 have e2:=bit3 (BitVec.ofInt 64 x)
 unfold slot_State.f
 rw [show IntKind.bits .u64=64 from rfl,e2,wu64 (by omega) (by omega),wi64 (by omega) (by omega)]
 congr 1
 omega
theorem ref_state {x:Int} (h0:0≤x):sr02_State.f x=some (x % 4):=by
 unfold sr02_State.f
 rw [Int.tmod_eq_emod_of_nonneg h0,wi64 (by omega) (by omega)]
section
variable {T S C H K V L:Int} {l:List Int}
def stL (T S C H K V L:Int) (l:List Int) (h lev:Int):Bool:=!mkB T S C H K V L l (h % 4294967296) lev && (lvs T S C H K V L l lev).contains h
def stB (T S C H K V L:Int) (l:List Int) (h:Int):Bool:=!ddB T S C H K V L l (h % 4294967296) && ((atF T S C H K V L l (h % 4294967296) 5 == 1) && mks (stL T S C H K V L l h) (atF T S C H K V L l (h % 4294967296) 4).toNat 0)
theorem Wd.settled_l0 (hw:Wd T S C H K V L l) {h t:Int} (h1:0≤h % 4294967296) (h2:h % 4294967296≤C) (ht0:0≤t) (ht:t≤H):∀ (m k:Nat) (x:Int),0≤x→(t - x).toNat=m→m+1000≤k→sw_settled.l0 k T S C H K V L l h t x=some (mks (stL T S C H K V L l h) m x)
 | m,0,x,_,_,h=>absurd h (by omega)
 | 0,k+1,x,hx,hm,hk=>by
  have hH:=hw.r.h
  rw [sw_settled.l0,if_neg (by rw [wi64 (n:=t) (by omega) (by omega)]; omega)]
  rfl
 | m+1,k+1,x,hx,hm,hk=>by
  have hH:=hw.r.h
  have hlen:=hw.len_ hx (show x<H by omega)
  rw [sw_settled.l0,if_pos (by rw [wi64 (n:=t) (by omega) (by omega)]; omega),hw.marked h1 h2 hx (by omega),wi64 (n:=x+1) (by omega) (by omega),hw.level (by omega) hx (by omega)]
  simp only [Option.bind_some]
  rw [contains_is (by omega) h (by omega),hw.settled_l0 h1 h2 ht0 ht m k (x+1) (by omega) (by omega) (by omega),mks_succ]
  unfold stL
  cases mkB T S C H K V L l (h % 4294967296) x <;> cases (lvs T S C H K V L l x).contains h <;> rfl
theorem Wd.settled (hw:Wd T S C H K V L l) {h:Int} (h1:0≤h % 4294967296) (h2:h % 4294967296≤C) (ht:atF T S C H K V L l (h % 4294967296) 4≤H) {k:Nat} (hk:1500≤k):sw_settled.f k T S C H K V L l h=some (stB T S C H K V L l h):=by
 have hH:=hw.r.h
 have hb:=hw.au (i:=h % 4294967296) (f:=4) h1 h2 (by omega) (by omega)
 have hb2:=hw.au (i:=h % 4294967296) (f:=2) h1 h2 (by omega) (by omega)
 unfold sw_settled.f stB
 rw [hw.at_ (f:=2) h1 h2 (by omega) (by omega),hw.at_ (f:=5) h1 h2 (by omega) (by omega),hw.at_ (f:=4) h1 h2 (by omega) (by omega)]
 simp only [Option.bind_some]
 rw [dead_is hb2.1 hb2.2,hw.settled_l0 h1 h2 hb.1 ht (atF T S C H K V L l (h % 4294967296) 4).toNat k 0 (Int.le_refl _) (by omega) (by omega)]
 simp only [Option.bind_some]
 show ((if ddB T S C H K V L l (h % 4294967296)=true then some true else some (atF T S C H K V L l (h % 4294967296) 5 != 1)):Option Bool).bind _=_
 cases ddB T S C H K V L l (h % 4294967296) with
 | true=>rfl
 | false =>
  by_cases q:atF T S C H K V L l (h % 4294967296) 5=1
  ·rw [q]; rfl
  ·rw [show (atF T S C H K V L l (h % 4294967296) 5 != 1)=true by simpa using q,show (atF T S C H K V L l (h % 4294967296) 5 == 1)=false from beq_eq_false_iff_ne.2 q]
   rfl
theorem Wd.rsettled_l0 (hw:Wd T S C H K V L l) {h t:Int} (h1:0≤h % 4294967296) (h2:h % 4294967296≤C) (et:atF T S C H K V L l (h % 4294967296) 4=t) (ht0:0≤t) (ht:t≤H):∀ (m k:Nat) (x:Int),0≤x→(t - x).toNat=m→m+1000≤k→sr21_settled.l0 k T S C H K V L l h (h % 4294967296) x=some (mks (stL T S C H K V L l h) m x && (lvs T S C H K V L l 0).contains h)
 | m,0,x,_,_,h=>absurd h (by omega)
 | 0,k+1,x,hx,hm,hk=>by
  have hH:=hw.r.h
  have hlen:=hw.len_ (Int.le_refl 0) (show (0:Int)<H by omega)
  rw [sr21_settled.l0,hw.rat h1 h2 (by omega) (by omega),et]
  simp only [Option.bind_some]
  rw [if_neg (by rw [wi64 (n:=t) (by omega) (by omega)]; omega),hw.rlevel (by omega) (Int.le_refl 0) (by omega)]
  simp only [Option.bind_some]
  rw [in_is (by omega) h (by omega)]
  rfl
 | m+1,k+1,x,hx,hm,hk=>by
  have hH:=hw.r.h
  have hlen:=hw.len_ hx (show x<H by omega)
  rw [sr21_settled.l0,hw.rat h1 h2 (by omega) (by omega),et]
  simp only [Option.bind_some]
  rw [if_pos (by rw [wi64 (n:=t) (by omega) (by omega)]; omega),hw.rlevel (by omega) hx (by omega)]
  simp only [Option.bind_some]
  rw [hw.rmarked h1 h2 hx (by omega),in_is (by omega) h (by omega),wi64 (n:=x+1) (by omega) (by omega),hw.rsettled_l0 h1 h2 et ht0 ht m k (x+1) (by omega) (by omega) (by omega),mks_succ]
  unfold stL
  cases mkB T S C H K V L l (h % 4294967296) x <;> cases (lvs T S C H K V L l x).contains h <;> rfl
theorem Wd.rsettled (hw:Wd T S C H K V L l) {h:Int} (h0:0≤h) (h1:0≤h % 4294967296) (h2:h % 4294967296≤C) (ht:atF T S C H K V L l (h % 4294967296) 4≤H) {k:Nat} (hk:1500≤k):sr21_settled.f k T S C H K V L l h=some (stB T S C H K V L l h && (lvs T S C H K V L l 0).contains h):=by
 have hH:=hw.r.h
 have hb:=hw.au (i:=h % 4294967296) (f:=4) h1 h2 (by omega) (by omega)
 have hb2:=hw.au (i:=h % 4294967296) (f:=2) h1 h2 (by omega) (by omega)
 unfold sr21_settled.f stB
 rw [ref_index h0]
 simp only [Option.bind_some]
 rw [hw.rat (f:=2) h1 h2 (by omega) (by omega),hw.rat (f:=5) h1 h2 (by omega) (by omega)]
 simp only [Option.bind_some]
 rw [ref_dead hb2.1,hw.rsettled_l0 h1 h2 rfl hb.1 ht (atF T S C H K V L l (h % 4294967296) 4).toNat k 0 (Int.le_refl _) (by omega) (by omega)]
 simp only [Option.bind_some]
 show ((if ddB T S C H K V L l (h % 4294967296)=true then some true else some (atF T S C H K V L l (h % 4294967296) 5 != 1)):Option Bool).bind _=_
 cases ddB T S C H K V L l (h % 4294967296) with
 | true=>rfl
 | false =>
  by_cases q:atF T S C H K V L l (h % 4294967296) 5=1
  ·rw [q]; rfl
  ·rw [show (atF T S C H K V L l (h % 4294967296) 5 != 1)=true by simpa using q,show (atF T S C H K V L l (h % 4294967296) 5 == 1)=false from beq_eq_false_iff_ne.2 q]
   rfl
theorem RightB_tall (hR:RightB T S C H K V L l=true) {lev h:Int} (h0:0≤lev) (h1:lev<H) (hm:h∈lvs T S C H K V L l lev):atF T S C H K V L l (h % 4294967296) 4≤H:=by
 unfold RightB at hR
 rw [Bool.and_eq_true] at hR
 have h2:=mks_iff.1 hR.2 lev h0 (by omega)
 unfold rgB at h2
 simp only [Bool.and_eq_true] at h2
 have key:∀ (ys:List Int) (f:Bool) (key:Int),rlB T S C H K V L l lev f key ys=true→∀ h∈ys,ndB T S C H K V L l h lev=true:=by
  intro ys
  induction ys with
  | nil=>intro _ _ _ h hh; cases hh
  | cons y t ih =>
   intro f key hr h hh
   unfold rlB at hr
   simp only [Bool.and_eq_true] at hr
   rcases List.mem_cons.1 hh with rfl | hh
   ·exact hr.2.1
   ·exact ih _ _ hr.2.2 h hh
 have h3:=key _ _ _ h2.2.2.2 h hm
 unfold ndB at h3
 simp only [Bool.and_eq_true,decide_eq_true_eq] at h3
 exact h3.2.2.1
def goodB (T S C H K V L:Int) (l:List Int) (h:Int):Bool:=nmF T S C H K V L l h && (!decide (h / 4611686018427387904 % 2=1) && tkB T S C H K V L l h)
def cntI (own:List Int) (i:Int):Int:=((own.filter (fun h=>h % 4294967296 == i)).length:Int)
theorem cnt_cons (h:Int) (own:List Int) (i:Int):cntI (h :: own) i=(if h % 4294967296=i then 1 else 0)+cntI own i:=by
 unfold cntI
 by_cases e:h % 4294967296=i
 ·rw [if_pos e,List.filter_cons_of_pos (by simpa using e),List.length_cons]
  omega
 ·rw [if_neg e,List.filter_cons_of_neg (by simpa using e)]
  omega
theorem cnt_le (own:List Int) (i:Int):0≤cntI own i∧cntI own i≤own.length:=by
 unfold cntI
 have:=List.length_filter_le (fun h:Int=>h % 4294967296 == i) own
 omega
def tmB (T S C H K V L:Int) (l own:List Int) (i:Int):Bool:=decide (cntI own i≤1) && ((atF T S C H K V L l i 0 % 4 == 1) == (cntI own i == 1))
theorem Wd.l5 (hw:Wd T S C H K V L l) {own ts:List Int} (hts:(ts.length:Int)=C+1) (hc:∀ j,0≤j→j≤C→rd ts j=cntI own j):∀ (m k:Nat) (y:Int),C+1=y+m→m<k→1≤y→shape_Rest.l5 k T S C H K V L l ts y=some (mks (tmB T S C H K V L l own) m y)
 | m,0,y,_,h,_=>absurd h (by omega)
 | 0,k+1,y,hy,hk,h0=>by rw [shape_Rest.l5,if_neg (by omega)]; rfl
 | m+1,k+1,y,hy,hk,h0=>by
  have hC:=hw.r.c
  have hH:=hw.r.h
  have hb:=hw.au (i:=y) (f:=0) (by omega) (by omega) (by omega) (by omega)
  rw [shape_Rest.l5,if_pos (by omega),hw.at_ (by omega) (by omega) (by omega) (by omega)]
  simp only [Option.bind_some]
  rw [state_is hb.1 hb.2,hc y (by omega) (by omega),wi64 (n:=C+1) (by omega) (by omega),wi64 (n:=y+1) (by omega) (by omega)]
  simp only [Option.bind_some]
  rw [if_pos (show 0≤y by omega),if_pos (show y<((C+1).toNat:Int) by omega),hw.l5 hts hc m k (y+1) (by omega) (by omega) (by omega),mks_succ]
  unfold tmB
  by_cases q:cntI own y > 1
  ·rw [if_pos q,decide_eq_false (show ¬ cntI own y≤1 by omega)]
   rfl
  ·rw [if_neg q,decide_eq_true (show cntI own y≤1 by omega)]
   cases (atF T S C H K V L l y 0 % 4 == 1) <;> cases (cntI own y == 1) <;> rfl
theorem Wd.l4 (hw:Wd T S C H K V L l) {own:List Int} (ho:own.length≤500) (hu:∀ h∈own,0≤h∧h<18446744073709551616):∀ (rest:List Int) (k i:Nat) (ts:List Int),own.drop i=rest→(ts.length:Int)=C+1→(∀ j,0≤j→j≤C→rd ts j=cntI (own.take i) j)→rest.length+200≤k→shape_Rest.l4 k T S C H K V L l own (i:Int) ts=some (rest.all (goodB T S C H K V L l) && mks (tmB T S C H K V L l own) C.toNat 1)
 | rest,0,i,ts,_,_,_,h=>absurd h (by omega)
 | [],k+1,i,ts,hd,hts,hc,hk=>by
  have hC:=hw.r.c
  have hl:own.length≤i:=List.drop_eq_nil_iff.1 hd
  rw [List.take_of_length_le hl] at hc
  rw [shape_Rest.l4,if_neg (by omega),hw.l5 hts hc C.toNat k 1 (by omega) (by omega) (Int.le_refl _)]
  rfl
 | h :: rest,k+1,i,ts,hd,hts,hc,hk=>by
  have hC:=hw.r.c
  obtain ⟨hi,hg,hr⟩:=drop_cons' hd
  have e1:rd own (i:Int)=h:=by unfold rd; rw [Int.toNat_natCast,List.getD_eq_getElem?_getD,hg]; rfl
  have hh:=hu h (List.mem_of_getElem? hg)
  rw [List.length_cons] at hk
  rw [shape_Rest.l4,if_pos (by omega),if_pos (by omega),e1,names_eq]
  simp only [Option.bind_some,List.all_cons]
  unfold goodB
  cases hn:nmF T S C H K V L l h with
  | false=>rfl
  | true =>
   have hix:=names_ix hn
   rw [if_pos rfl,marked_is hh.1 hh.2]
   simp only [Option.bind_some]
   cases hm:decide (h / 4611686018427387904 % 2=1) with
   | true=>rfl
   | false =>
    rw [if_neg (by decide),hw.taken (by omega) hix.2]
    simp only [Option.bind_some]
    cases ht:tkB T S C H K V L l h with
    | false=>rfl
    | true =>
     have hcn:=cnt_le (own.take i) (h % 4294967296)
     have hlt:(own.take i).length≤own.length:=by rw [List.length_take]; omega
     have e2:=hc (h % 4294967296) (by omega) hix.2
     simp only [Bool.not_true,Bool.false_eq_true,if_false,Bool.not_false,Bool.true_and]
     rw [if_pos (by omega),wi64 (n:=C+1) (by omega) (by omega),if_pos (show h % 4294967296<((C+1).toNat:Int) by omega),e2,wi64 (n:=cntI (own.take i) (h % 4294967296)+1) (by omega) (by omega),show IntKind.wrap .i64 ((i:Int)+1)=((i+1:Nat):Int) by rw [wi64 (by omega) (by omega)]; rfl]
     refine hw.l4 ho hu rest k (i+1) _ hr (by rw [List.length_set]; exact hts) (fun j hj0 hj1=>?_) (by omega)
     have e3:own.take (i+1)=own.take i ++ [h]:=by rw [List.take_add_one,hg]; rfl
     have e4:cntI (own.take (i+1)) j=cntI (own.take i) j+(if h % 4294967296=j then 1 else 0):=by
      rw [e3]
      unfold cntI
      rw [List.filter_append,List.length_append]
      by_cases q:h % 4294967296=j
      ·rw [if_pos q,List.filter_cons_of_pos (by simpa using q)]; simp
      ·rw [if_neg q,List.filter_cons_of_neg (by simpa using q)]; simp
     rw [rd_set (by omega),e4]
     by_cases q:j=h % 4294967296
     ·rw [if_pos (by omega),if_pos q.symm,q]
     ·rw [if_neg (by omega),if_neg (fun e=>q e.symm),hc j hj0 hj1]
      omega
def tmV:Bool→Int→Int
 | true,n=>n
 | false,_ => -1
theorem Wd.times (hw:Wd T S C H K V L l) {own:List Int} (ho:own.length≤500) (hu:∀ h∈own,0≤h∧h<18446744073709551616) (i:Int):∀ (rest:List Int) (k j:Nat) (n:Int),own.drop j=rest→rest.length<k→0≤n→n≤j→sr21_times.l0 k T S C H K V L l own i n (j:Int)=some (tmV (rest.all (goodB T S C H K V L l)) (n+cntI rest i))
 | rest,0,j,n,_,h,_,_=>absurd h (by omega)
 | [],k+1,j,n,hd,hk,_,_=>by
  have hl:own.length≤j:=List.drop_eq_nil_iff.1 hd
  rw [sr21_times.l0,if_neg (by omega)]
  simp [cntI,tmV]
 | h :: rest,k+1,j,n,hd,hk,hn0,hnj=>by
  have hC:=hw.r.c
  have hH:=hw.r.h
  obtain ⟨hi,hg,hr⟩:=drop_cons' hd
  have e1:rd own (j:Int)=h:=by unfold rd; rw [Int.toNat_natCast,List.getD_eq_getElem?_getD,hg]; rfl
  have hh:=hu h (List.mem_of_getElem? hg)
  have ew:IntKind.wrap .i64 ((j:Int)+1)=((j+1:Nat):Int):=by rw [wi64 (by omega) (by omega)]; rfl
  rw [List.length_cons] at hk
  rw [sr21_times.l0,if_pos (by omega),if_pos (by omega),e1,ref_index hh.1,ref_valid,ref_marked hh.1 hh.2,ew]
  simp only [Option.bind_some]
  rw [List.all_cons,show goodB T S C H K V L l h=(nmF T S C H K V L l h && (!decide (h / 4611686018427387904 % 2=1) && tkB T S C H K V L l h)) from rfl,nm_is hh.1 hh.2]
  by_cases q1:h≥9223372036854775808
  ·rw [decide_eq_true q1,if_pos rfl]
   cases hm:decide (h / 4611686018427387904 % 2=1) with
   | true=>simp [tmV]
   | false =>
    rw [if_neg (by decide)]
    by_cases q2:h % 4294967296<1
    ·rw [if_pos q2,decide_eq_false (show ¬ h % 4294967296≥1 by omega)]
     simp [tmV]
    ·rw [if_neg q2,decide_eq_true (show h % 4294967296≥1 by omega)]
     by_cases q3:h % 4294967296 > C
     ·rw [decide_eq_true q3,decide_eq_false (show ¬ h % 4294967296≤C by omega)]
      simp [tmV]
     ·rw [decide_eq_false q3,decide_eq_true (show h % 4294967296≤C by omega)]
      simp only [Option.bind_some,Bool.false_eq_true,if_false,Bool.and_self,Bool.true_and,Bool.not_false]
      rw [hw.rat (by omega) (by omega) (by omega) (by omega),ref_gen hh.1 hh.2]
      simp only [Option.bind_some]
      rw [ref_taken (by omega) (by omega)]
      simp only [Option.bind_some]
      by_cases q4:atF T S C H K V L l (h % 4294967296) 0=4 * (h / 4294967296 % 1073741824)+1
      ·rw [if_pos q4,show tkB T S C H K V L l h=true from beq_iff_eq.2 q4,wi64 (n:=n+1) (by omega) (by omega),hw.times ho hu i rest k (j+1) (n+1) hr (by omega) (by omega) (by omega),hw.times ho hu i rest k (j+1) n hr (by omega) (by omega) (by omega),Bool.true_and,cnt_cons]
       by_cases q5:h % 4294967296=i
       ·rw [if_pos q5,if_pos q5,show n+1+cntI rest i=n+(1+cntI rest i) by omega]
       ·rw [if_neg q5,if_neg q5,Int.zero_add]
      ·rw [if_neg q4,show tkB T S C H K V L l h=false from beq_eq_false_iff_ne.2 q4]
       simp [tmV]
  ·rw [decide_eq_false q1]
   simp [tmV]
theorem Wd.rl5 (hw:Wd T S C H K V L l) {own:List Int} (ho:own.length≤500) (hu:∀ h∈own,0≤h∧h<18446744073709551616) (hg:own.all (goodB T S C H K V L l)=true):∀ (m k:Nat) (y:Int),C+1=y+m→m+600≤k→1≤y→sr21_Rest.l5 k T S C H K V L l own y=some (mks (tmB T S C H K V L l own) m y)
 | m,0,y,_,h,_=>absurd h (by omega)
 | 0,k+1,y,hy,hk,h0=>by rw [sr21_Rest.l5,if_neg (by omega)]; rfl
 | m+1,k+1,y,hy,hk,h0=>by
  have hC:=hw.r.c
  have hH:=hw.r.h
  have hb:=hw.au (i:=y) (f:=0) (by omega) (by omega) (by omega) (by omega)
  have hcl:=cnt_le own y
  have ht:sr21_times.f k T S C H K V L l own y=some (cntI own y):=by
   unfold sr21_times.f
   have:=hw.times ho hu y own k 0 0 rfl (by omega) (by omega) (by omega)
   rw [hg,Int.zero_add] at this
   exact this
  rw [sr21_Rest.l5,if_pos (by omega),ht]
  simp only [Option.bind_some]
  rw [hw.rat (by omega) (by omega) (by omega) (by omega)]
  simp only [Option.bind_some]
  rw [ref_state hb.1,wi64 (n:=y+1) (by omega) (by omega)]
  simp only [Option.bind_some]
  rw [if_neg (show ¬ cntI own y<0 by omega),hw.rl5 ho hu hg m k (y+1) (by omega) (by omega) (by omega),mks_succ]
  unfold tmB
  by_cases q:cntI own y > 1
  ·rw [if_pos q,decide_eq_false (show ¬ cntI own y≤1 by omega)]
   rfl
  ·rw [if_neg q,decide_eq_true (show cntI own y≤1 by omega)]
   cases (atF T S C H K V L l y 0 % 4 == 1) <;> cases (cntI own y == 1) <;> rfl
theorem Wd.rl5' (hw:Wd T S C H K V L l) {own:List Int} (ho:own.length≤500) (hu:∀ h∈own,0≤h∧h<18446744073709551616) {k:Nat} (hk:700≤k):sr21_Rest.l5 k T S C H K V L l own 1=some (own.all (goodB T S C H K V L l) && mks (tmB T S C H K V L l own) C.toNat 1):=by
 have hC:=hw.r.c
 have hH:=hw.r.h
 cases hg:own.all (goodB T S C H K V L l) with
 | true=>exact hw.rl5 ho hu hg C.toNat k 1 (by omega) (by omega) (Int.le_refl _)
 | false =>
  obtain ⟨k,rfl⟩:∃ z,k=z+1:=⟨k - 1,by omega⟩
  have hb:=hw.au (i:=1) (f:=0) (by omega) (by omega) (by omega) (by omega)
  have ht:sr21_times.f k T S C H K V L l own 1=some (-1):=by
   unfold sr21_times.f
   have:=hw.times ho hu 1 own k 0 0 rfl (by omega) (by omega) (by omega)
   rw [hg] at this
   exact this
  rw [sr21_Rest.l5,if_pos (by omega),ht]
  simp only [Option.bind_some]
  rw [hw.rat (by omega) (by omega) (by omega) (by omega)]
  simp only [Option.bind_some]
  rw [ref_state hb.1]
  rfl
end
end Go.Eng
