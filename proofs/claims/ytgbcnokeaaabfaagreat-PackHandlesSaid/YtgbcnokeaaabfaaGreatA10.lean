/-
Own text, put together by an own program (shake.py) out of this claim's texts: what its theorem needs of them.
-/
import Derived.Test.YtgbcnokeaaabfaaGreatA9
namespace Go.Run
open Go.Eng
set_option linter.unusedVariables false
set_option linter.unusedSimpArgs false
theorem isD_eq (x:Rec) (r:List Rec) (t:Nat):isD (x :: r) t=match x.dst with
  | some d=>(match Nat.beq d t with | true=>true | false=>isD r t)
  | none=>isD r t:=by
 show Option.rec (motive:=fun _=>Bool) (isD r t) (fun d=>Bool.rec (motive:=fun _=>Bool) (isD r t) true (Nat.beq d t)) x.dst=_
 cases x.dst with
 | none=>rfl
 | some d=>show Bool.rec (motive:=fun _=>Bool) (isD r t) true (Nat.beq d t)=_; dsimp only; cases Nat.beq d t <;> rfl
theorem outs_eq (x:Rec) (r:List Rec) (j a:Nat):outs (x :: r) (Nat.succ j) a=match Nat.beq (Nat.land (Nat.shiftRight a j) 1) 1 with
  | true=>outs r j a
  | false=>x :: outs r j a:=by
 show Bool.rec (motive:=fun _=>List Rec) (x :: outs r j a) (outs r j a) (Nat.beq (Nat.land (Nat.shiftRight a j) 1) 1)=_
 cases Nat.beq (Nat.land (Nat.shiftRight a j) 1) 1 <;> rfl
theorem bit_iff {a i:Nat}:bit a i↔a.testBit i=true:=by
 unfold bit Nat.testBit
 show (a >>> i) &&& 1=1↔_
 rw [Nat.and_comm (a >>> i) 1,Nat.one_and_eq_mod_two,bne_iff_ne]
 omega
theorem bit_lor {a b i:Nat}:bit (Nat.lor a b) i↔bit a i∨bit b i:=by
 rw [bit_iff,bit_iff,bit_iff]
 show (a ||| b).testBit i=true↔_
 rw [Nat.testBit_or,Bool.or_eq_true]
theorem bit_one {k i:Nat}:bit (Nat.shiftLeft 1 k) i↔i=k:=by
 rw [bit_iff]
 show (1 <<< k).testBit i=true↔_
 rw [Nat.one_shiftLeft,Nat.testBit_two_pow]
 simp [eq_comm]
theorem bit_zero {i:Nat}:¬ bit 0 i:=by
 rw [bit_iff]; simp
theorem nth_at:∀ {es:List En} {i:Nat},i<es.length→nth (es.map (·.r)) (es.length - 1 - i)=(atI es i).map (·.r)
 | [],i,h=>by simp at h
 | e :: r,i,h=>by
  unfold atI
  by_cases hi:i=r.length
  ·rw [if_pos hi,hi]
   simp; rfl
  ·rw [if_neg hi]
   have hlt:i<r.length:=by simp at h; omega
   have:(e :: r).length - 1 - i=(r.length - 1 - i)+1:=by simp; omega
   rw [this]
   show nth (r.map (·.r)) (r.length - 1 - i)=_
   exact nth_at hlt
theorem preM_ok {es:List En}:∀ {l:List Edge} {a pre:Nat},preM (es.map (·.r)) es.length l a=some pre →
  (∀ i,bit pre i→bit a i∨∃ x∈l,Region.binds .any x=true∧(i=x.on∨∃ e',atI es x.on=some e'∧bit e'.r.pre i))∧∀ x∈l,Region.binds .any x=true→x.on<es.length
 | [],a,pre,h=>by
  cases h
  exact ⟨fun i hi => .inl hi,fun x hx=>by cases hx⟩
 | x :: r,a,pre,h=>by
  unfold preM at h
  split at h
  ·rename_i hb
   obtain ⟨h1,h2⟩:=preM_ok h
   refine ⟨fun i hi=>(h1 i hi).imp id (fun ⟨y,hy,h⟩=>⟨y,List.mem_cons_of_mem _ hy,h⟩),fun y hy hby=>?_⟩
   rcases List.mem_cons.1 hy with rfl | hy
   ·rw [hb] at hby; cases hby
   ·exact h2 y hy hby
  ·rename_i hb
   split at h <;> first | (cases h; done) | skip
   rename_i rc hn hlt
   have hlt:x.on<es.length:=Nat.le_of_ble_eq_true hlt
   have hn:nth (es.map (·.r)) (es.length - 1 - x.on)=some rc:=hn
   rw [nth_at hlt] at hn
   obtain ⟨e',he',rfl⟩:=Option.map_eq_some_iff.1 hn
   obtain ⟨h1,h2⟩:=preM_ok h
   refine ⟨fun i hi=>?_,fun y hy hby=>?_⟩
   ·rcases h1 i hi with h3 | ⟨y,hy,h3⟩
    ·rcases bit_lor.1 h3 with h4 | h4
     ·exact .inl h4
     ·rcases bit_lor.1 h4 with h5 | h5
      ·exact .inr ⟨x,List.mem_cons_self,hb,.inl (bit_one.1 h5)⟩
      ·exact .inr ⟨x,List.mem_cons_self,hb,.inr ⟨e',he',h5⟩⟩
    ·exact .inr ⟨y,List.mem_cons_of_mem _ hy,h3⟩
   ·rcases List.mem_cons.1 hy with rfl | hy
    ·exact hlt
    ·exact h2 y hy hby
theorem outs_ok {a:Nat}:∀ {es:List En} {i:Nat} {e:En},atI es i=some e→¬ bit a i→e.r∈outs (es.map (·.r)) es.length a
 | [],i,e,h,_=>by cases h
 | e0 :: r,i,e,h,hb=>by
  unfold atI at h
  have go:atI r i=some e→e.r∈outs ((e0 :: r).map (·.r)) (e0 :: r).length a:=fun h=>by
   have ih:=outs_ok h hb
   show e.r∈outs (e0.r :: r.map (·.r)) (Nat.succ r.length) a
   rw [outs_eq]
   split
   ·exact ih
   ·exact List.mem_cons_of_mem _ ih
  split at h
  ·rename_i hi
   cases h
   show e0.r∈outs (e0.r :: r.map (·.r)) (Nat.succ r.length) a
   rw [outs_eq]
   rw [show Nat.beq (Nat.land (Nat.shiftRight a r.length) 1) 1=false from beq_f.2 (fun h=>hb (by rw [hi]; exact h))]
   exact List.mem_cons_self
  ·exact go h
theorem isD_ok:∀ {rs:List Rec} {t:Nat},isD rs t=false→∀ x∈rs,x.dst≠some t
 | [],t,h,x,hx=>by cases hx
 | y :: r,t,h,x,hx=>by
  rw [isD_eq] at h
  split at h
  ·rename_i d hd
   split at h <;> first | (cases h; done) | skip
   rename_i hn
   rcases List.mem_cons.1 hx with rfl | hx
   ·rw [hd]; intro e; injection e with e; exact beq_f.1 hn e
   ·exact isD_ok h x hx
  ·rename_i hd
   rcases List.mem_cons.1 hx with rfl | hx
   ·rw [hd]; simp
   ·exact isD_ok h x hx
theorem maskF_ok {us:List Rec} {F:Fm}:∀ {ts:List Nat} {G:Fm} {t:Nat} {v:V},(maskF us F ts G).get t=some v→G.get t=some v∨(F.get t=some v∧∀ x∈us,x.dst≠some t)
 | [],G,t,v,h => .inl h
 | s :: r,G,t,v,h=>by
  unfold maskF at h
  split at h
  ·exact maskF_ok h
  ·rename_i hd
   rcases maskF_ok h with h1 | h1
   ·by_cases e:t=s
    ·subst e
     rw [Fm.put_same] at h1
     exact .inr ⟨h1,isD_ok hd⟩
    ·rw [Fm.put_other _ _ e] at h1
     exact .inl h1
   ·exact .inr h1
theorem delL_ok:∀ {l:List Nat} {H:PT Ob} {b:Nat} {o:Ob},(delL H l).get b=some o→H.get b=some o∧b ∉ l
 | [],H,b,o,h=>⟨h,by simp⟩
 | x :: r,H,b,o,h=>by
  obtain ⟨h1,h2⟩:=delL_ok (l:=r) h
  by_cases e:b=x
  ·subst e; rw [PT.put_same] at h1; cases h1
  ·rw [PT.put_other _ _ e] at h1
   exact ⟨h1,by simp [e,h2]⟩
theorem delR_ok:∀ {k c:Nat} {H:PT Ob} {b:Nat} {o:Ob},(delR H k c).get b=some o→H.get b=some o∧¬ (c≤b∧b<c+k)
 | 0,c,H,b,o,h=>⟨h,by omega⟩
 | k+1,c,H,b,o,h=>by
  have h:(delR (H.put c none) k (c+1)).get b=some o:=h
  obtain ⟨h1,h2⟩:=delR_ok h
  by_cases e:b=c
  ·subst e; rw [PT.put_same] at h1; cases h1
  ·rw [PT.put_other _ _ e] at h1
   exact ⟨h1,by omega⟩
theorem maskH_ok:∀ {us:List Rec} {H:PT Ob} {b:Nat} {o:Ob},(∀ x∈us,x.c≤x.c')→(maskH us H).get b=some o→H.get b=some o∧∀ x∈us,¬ Tch x b
 | [],H,b,o,_,h=>⟨h,by simp⟩
 | x :: r,H,b,o,hc,h=>by
  obtain ⟨h1,h2⟩:=maskH_ok (us:=r) (fun y hy=>hc y (List.mem_cons_of_mem _ hy)) h
  obtain ⟨h3,h4⟩:=delR_ok h1
  obtain ⟨h5,h6⟩:=delL_ok h3
  have hx:=hc x List.mem_cons_self
  refine ⟨h5,fun y hy=>?_⟩
  rcases List.mem_cons.1 hy with rfl | hy
  ·rintro (h7 | h7)
   ·exact h6 h7
   ·refine h4 ⟨h7.1,?_⟩
    show b<y.c+(y.c' - y.c)
    omega
  ·exact h2 y hy
theorem full_ok {us:List Rec} {op:Op} (h:full us op=true):us=[]:=by
 unfold full at h
 split at h
 ·rfl
 ·cases h
theorem maskM_ok {us:List Rec} {F:Fm} {H:PT Ob} {op:Op} {b:Nat} {o:Ob} (hc:∀ x∈us,x.c≤x.c') (h:(maskM us F H op).get b=some o):H.get b=some o∧∀ x∈us,¬ Tch x b:=by
 unfold maskM at h
 split at h
 ·rename_i hf
  rw [full_ok hf]
  exact ⟨h,by simp⟩
 ·split at h
  ·rw [PT.get_e] at h; cases h
  ·split at h
   ·split at h
    ·rename_i b' off _
     by_cases e:b=b'
     ·subst e
      rw [PT.put_same] at h
      exact maskH_ok hc h
     ·rw [PT.put_other _ _ e,PT.get_e] at h; cases h
    ·rw [PT.get_e] at h; cases h
   ·exact maskH_ok hc h
theorem cpL_ok {K:PT Ob}:∀ {l:List Nat} {H:PT Ob} {b:Nat},(cpL K H l).get b=if b∈l then K.get b else H.get b
 | [],H,b=>by simp [cpL]
 | x :: r,H,b=>by
  show (cpL K (H.put x (K.get x)) r).get b=_
  rw [cpL_ok]
  by_cases e:b=x
  ·subst e; rw [PT.put_same]; simp
  ·rw [PT.put_other _ _ e]; simp [e]
theorem cpR_ok {K:PT Ob}:∀ {k c:Nat} {H:PT Ob} {b:Nat},(cpR K H k c).get b=if c≤b∧b<c+k then K.get b else H.get b
 | 0,c,H,b=>by
  rw [if_neg (by omega)]; rfl
 | k+1,c,H,b=>by
  show (cpR K (H.put c (K.get c)) k (c+1)).get b=_
  rw [cpR_ok]
  by_cases e:b=c
  ·subst e
   rw [PT.put_same,if_pos (by omega:b≤b∧b<b+(k+1))]
   split <;> rfl
  ·rw [PT.put_other _ _ e]
   by_cases h:c+1≤b∧b<c+1+k
   ·rw [if_pos h,if_pos (by omega)]
   ·rw [if_neg h,if_neg (by omega)]
theorem merge_ok {fl:Bool} {H K:PT Ob} {r:Rec} {c:Nat} (hc:c≤r.c') (hr:r.c=c) (hs:fl=true→∀ b,¬ Tch r b→K.get b=H.get b) (b:Nat):(merge fl H K r.wl c r.c').get b=if Tch r b then K.get b else H.get b:=by
 unfold merge
 split
 ·split
  ·rfl
  ·exact hs rfl b ‹_›
 ·rw [cpR_ok,cpL_ok]
  subst hr
  by_cases h1:r.c≤b∧b<r.c'
  ·rw [if_pos (⟨h1.1,by show b<r.c+(r.c' - r.c); omega⟩),if_pos (show Tch r b from .inr h1)]
  ·rw [if_neg (fun h=>h1 ⟨h.1,by have:b<r.c+(r.c' - r.c):=h.2; omega⟩)]
   by_cases h2:b∈r.wl
   ·rw [if_pos h2,if_pos (show Tch r b from .inl h2)]
   ·rw [if_neg h2,if_neg (show ¬ Tch r b by rintro (h | h) <;> contradiction)]
theorem anyB_ok {H:PT Ob}:∀ {l:List Nat},anyB H l=false→∀ b∈l,H.get b=none
 | [],h,b,hb=>by cases hb
 | x :: r,h,b,hb=>by
  unfold anyB at h
  split at h <;> first | (cases h; done) | skip
  rename_i hx
  rcases List.mem_cons.1 hb with rfl | hb
  ·unfold hasB at hx
   split at hx
   ·cases hx
   ·assumption
  ·exact anyB_ok h b hb
theorem clash_ok:∀ {us:List Rec} {wl:List Nat},clash us wl=false→∀ x∈us,∀ b∈wl,x.H.get b=none
 | [],wl,h,x,hx=>by cases hx
 | y :: r,wl,h,x,hx=>by
  unfold clash at h
  split at h <;> first | (cases h; done) | skip
  rename_i hy
  rcases List.mem_cons.1 hx with rfl | hx
  ·exact anyB_ok hy
  ·exact clash_ok h x hx
theorem clean_ok:∀ {l:List Oper} {F:Fm},(∀ t v,(clean l F).get t=some v→F.get t=some v)∧∀ o∈l,∀ t,o.dst=some t→(clean l F).get t=none
 | [],F=>⟨fun t v h=>h,fun o ho=>by cases ho⟩
 | o :: r,F=>by
  unfold clean
  split
  ·rename_i d hd
   obtain ⟨h1,h2⟩:=clean_ok (l:=r) (F:=F.put d none)
   refine ⟨fun t v h=>?_,fun o' ho' t ht=>?_⟩
   ·have:=h1 t v h
    by_cases e:t=d
    ·subst e; rw [Fm.put_same] at this; cases this
    ·rw [Fm.put_other _ _ e] at this; exact this
   ·rcases List.mem_cons.1 ho' with rfl | ho'
    ·rw [hd] at ht
     injection ht with ht
     subst ht
     cases e:(clean r (F.put d none)).get d with
     | none=>rfl
     | some v =>
      have:=h1 d v e
      rw [Fm.put_same] at this
      cases this
    ·exact h2 o' ho' t ht
  ·rename_i hd
   obtain ⟨h1,h2⟩:=clean_ok (l:=r) (F:=F)
   refine ⟨h1,fun o' ho' t ht=>?_⟩
   rcases List.mem_cons.1 ho' with rfl | ho'
   ·rw [hd] at ht; cases ht
   ·exact h2 o' ho' t ht
theorem least:∀ {L:List Nat},L≠[]→∃ i∈L,∀ k∈L,i≤k
 | [],h=>absurd rfl h
 | x :: r,h=>by
  by_cases hr:r=[]
  ·subst hr; exact ⟨x,List.mem_cons_self,fun k hk=>by simp at hk; omega⟩
  ·obtain ⟨i,h1,h2⟩:=least hr
   by_cases hx:x≤i
   ·refine ⟨x,List.mem_cons_self,fun k hk=>?_⟩
    rcases List.mem_cons.1 hk with rfl | hk
    ·exact Nat.le_refl _
    ·exact Nat.le_trans hx (h2 k hk)
   ·refine ⟨i,List.mem_cons_of_mem _ h1,fun k hk=>?_⟩
    rcases List.mem_cons.1 hk with rfl | hk
    ·omega
    ·exact h2 k hk
section
variable {P:Program} {ρ:Rho} {n:Nat} {ops:Array Oper} {F0:Nat→Option V} {H0:Nat→Option Ob} {c0:Nat} {wl0:List Nat}
theorem reg_all {w0 ws:World} {E0:Env} {es:List En} {Q:Exit→Act→World→Prop} (ht:Tr P ρ n ops F0 H0 c0 es) (hl:es.length=ops.size) (hap:Apart H0 c0 (cAt c0 es)) (hf0:Fresh E0 c0 (cAt c0 es)) (hF0:∀ (i:Nat) (o:Oper) (t:Nat),ops[i]?=some o→o.dst=some t→F0 t=none)
  (hQ:∀ E a w,Rel ρ n F0 H0 c0 wl0 w0 ws E0 es All E a w→Q .normal a w):∀ (fuel:Nat) (listed:Array Bool) (L:List Nat) (E:Env) (a:Act) (w:World),listed.size=ops.size→L.Nodup→L.length=fuel→(∀ i,i<ops.size→(listed.getD i true=false↔i∈L))→(∀ i∈L,i<ops.size) →
   Cl es (fun i=>listed.getD i true)→Rel ρ n F0 H0 c0 wl0 w0 ws E0 es (fun i=>listed.getD i true) E a w→wpAny P .any ops Q fuel listed a w:=by
 intro fuel
 induction fuel with
 | zero =>
  intro listed L E a w hsz hnd hlen hL hLt hc hr
  have hnil:L=[]:=List.length_eq_zero_iff.1 hlen
  have hall:(fun i=>listed.getD i true)=All:=by
   funext i
   by_cases hi:i<ops.size
   ·cases h:listed.getD i true with
    | true=>rfl
    | false=>have:=(hL i hi).1 h; rw [hnil] at this; cases this
   ·show listed.getD i true=true
    rw [Array.getD_eq_getD_getElem?,Array.getElem?_eq_none (by omega)]
    rfl
  refine ⟨?_,hQ E a w (by rw [← hall]; exact hr)⟩
  cases h:Region.ready .any ops listed with
  | nil=>rfl
  | cons j r =>
   have hj:j∈Region.ready .any ops listed:=by rw [h]; exact List.mem_cons_self
   obtain ⟨h1,o,h2,_⟩:=mem_ready.1 hj
   have:=(hL j (Array.getElem?_eq_some_iff.1 h2).1).1 h1
   rw [hnil] at this
   cases this
 | succ fuel ih =>
  intro listed L E a w hsz hnd hlen hL hLt hc hr
  refine ⟨fun h0=>?_,fun j hj=>?_⟩
  ·exfalso
   obtain ⟨i,h1,h2⟩:=least (L:=L) (by intro h; rw [h] at hlen; cases hlen)
   have hi:=hLt i h1
   obtain ⟨e,he⟩:=atI_some (es:=es) (i:=i) (by omega)
   obtain ⟨r,k1,k2,k3,q,k4⟩:=ht.at_ he
   have:i∈Region.ready .any ops listed:=by
    refine mem_ready.2 ⟨(hL i hi).2 h1,e.o,by rw [← k2]; exact k1.at_,fun x hx hb=>?_⟩
    have hlt:=k1.aft x hx hb
    have hxs:x.on<listed.size:=by omega
    have:listed.getD x.on true=true:=by
     cases h:listed.getD x.on true with
     | true=>rfl
     | false=>have:=h2 _ ((hL x.on (by omega)).1 h); omega
    rw [Array.getD_eq_getD_getElem?,Array.getElem?_eq_getElem hxs] at this ⊢
    exact this
   rw [h0] at this
   cases this
  ·obtain ⟨hD,o,ho,hall⟩:=mem_ready.1 hj
   have hjlt:=(Array.getElem?_eq_some_iff.1 ho).1
   obtain ⟨e,he⟩:=atI_some (es:=es) (i:=j) (by omega)
   obtain ⟨r,k1,k2,k3,q,k4⟩:=ht.at_ he
   have heo:e.o=o:=by
    have:=k1.at_
    rw [k2,ho] at this
    injection this with this
    exact this.symm
   have hset:(fun i=>(listed.setIfInBounds j true).getD i true)=add (fun i=>listed.getD i true) j:=by
    funext i
    show _=if i=j then true else listed.getD i true
    by_cases hij:i=j
    ·rw [if_pos hij,hij,Array.getD_eq_getD_getElem?,Array.getElem?_setIfInBounds_self_of_lt (by omega)]; rfl
    ·rw [if_neg hij,Array.getD_eq_getD_getElem?,Array.getElem?_setIfInBounds_ne (fun h=>hij h.symm),← Array.getD_eq_getD_getElem?]
   have hpre:∀ i,bit e.r.pre i→listed.getD i true=true:=by
    intro i hi
    obtain ⟨hlt,x,hx,hb,h⟩:=k1.pre i hi
    rw [heo] at hx
    have h1:=hall x hx hb
    have hxl:listed.getD x.on true=true:=by
     rw [Array.getD_eq_getD_getElem?] at h1 ⊢
     cases h2:listed[x.on]? with
     | none=>rfl
     | some y=>rw [h2] at h1; exact h1
    rcases h with rfl | ⟨e',h3,h4⟩
    ·exact hxl
    ·refine hc x.on e' ?_ hxl i h4
     rw [k4]
     rw [atI_app (by have:=atI_lt h3; simp; omega)]
     exact atI_cons h3
   refine hr.step ht hap hf0 hF0 hc he hD hpre (fun E' a' w' hr'=>?_)
   refine ih _ (L.erase j) E' a' w' (by simp [hsz]) (hnd.erase j) ?_ (fun i hi=>?_) (fun i hi=>hLt i (List.mem_of_mem_erase hi)) ?_ (by rw [hset]; exact hr')
   ·rw [List.length_erase_of_mem ((hL j hjlt).1 hD),hlen]; rfl
   ·rw [hnd.mem_erase_iff]
    have:=congrFun hset i
    rw [show (listed.setIfInBounds j true).getD i true=add (fun i=>listed.getD i true) j i from this]
    show (if i=j then true else listed.getD i true)=false↔_
    by_cases hij:i=j
    ·simp [hij]
    ·rw [if_neg hij,hL i hi]; simp [hij]
   ·rw [hset]
    intro k ek hk hDk i hi
    show (if i=j then true else listed.getD i true)=true
    by_cases hij:i=j
    ·rw [if_pos hij]
    ·rw [if_neg hij]
     by_cases hkj:k=j
     ·subst hkj
      rw [he] at hk
      injection hk with hk
      subst hk
      exact hpre i hi
     ·have hDk:(if k=j then true else listed.getD k true)=true:=hDk
      rw [if_neg hkj] at hDk
      exact hc k ek hk hDk i hi
end
end Go.Run
namespace Go.Run
open Go.Eng
set_option linter.unusedVariables false
set_option linter.unusedSimpArgs false
def Qx (e:Ex) (Q:Exit→Act→World→Prop) (a:Act) (w:World):Prop:=match e with
 | .nx=>Q .normal a w
 | .ret=>Q .ret a w
 | .ex i=>Q (.exit i) a w
 | _=>False
def To (w0:World) (E:Env) (m:Mm) (n:Nat) (w:World) (s':St) (K:Act→World→Prop):Prop :=
 ∀ E' a' w',Nx w0 E m.H.get m.c w E' s'.m.H.get s'.m.c s'.m.wl w'→FA E' s'.F n a'→K a' w'
theorem To.trans {w0:World} {E E1:Env} {m m1:Mm} {n:Nat} {w w1:World} {s':St} {K:Act→World→Prop} (h:To w0 E m n w s' K) (h1:Nx w0 E m.H.get m.c w E1 m1.H.get m1.c m1.wl w1) (S1:Sta m m1) (S2:Sta m1 s'.m) (hf:Fresh E m.c s'.m.c):To w0 E1 m1 n w1 s' K :=
 fun E' a' w' hn hfa=>h E' a' w' (h1.trans hn S2.wl hf S1.le S2.le) hfa
abbrev WP:=(Exit→Act→World→Prop)→Act→World→Prop
def RC (ρ:Rho) (n:Nat) (F:Fm) (m:Mm) (W:WP) (e:Ex) (s':St):Prop :=
 ∀ (w0:World) (E:Env) (a:Act) (w:World) (Q:Exit→Act→World→Prop),E.ρ=ρ→FA E F n a→Wr w0 E m.H.get w→Fresh E m.c s'.m.c→NP Q→To w0 E m n w s' (Qx e Q)→W Q a w
theorem RC.seq {ρ:Rho} {n:Nat} {F:Fm} {m:Mm} {W1 W2 W:WP} {s1 s2:St} {e:Ex} (h1:RC ρ n F m W1 .nx s1) (S1:Sta m s1.m) (h2:RC ρ n s1.F s1.m W2 e s2) (S2:Sta s1.m s2.m) (hW:∀ Q a w,W1 (Exit.then (W2 Q) Q) a w→W Q a w):RC ρ n F m W e s2:=by
 intro w0 E a w Q hρ hfa hw hf np hto
 refine hW Q a w (h1 w0 E a w _ hρ hfa hw (hf.sub (Nat.le_refl _) S2.le) (np_then np) (fun E' a' w' hn hfa'=>?_))
 exact h2 w0 E' a' w' Q (hn.ext.ρ.trans hρ) hfa' hn.wr (hn.fresh hf S1.le) np (hto.trans hn S1 S2 hf)
theorem RC.early {ρ:Rho} {n:Nat} {F:Fm} {m:Mm} {W1 W:WP} {s1:St} {e:Ex} {K:(Exit→Act→World→Prop)→Act→World→Prop} (h1:RC ρ n F m W1 e s1) (he:e ≠ .nx) (hW:∀ Q a w,W1 (Exit.then (K Q) Q) a w→W Q a w):RC ρ n F m W e s1:=by
 intro w0 E a w Q hρ hfa hw hf np hto
 refine hW Q a w (h1 w0 E a w _ hρ hfa hw hf (np_then np) (fun E' a' w' hn hfa'=>?_))
 have:=hto E' a' w' hn hfa'
 cases e with
 | nx=>exact absurd rfl he
 | ret=>exact this
 | ex i=>exact this
 | val v=>exact this
 | pan=>exact this
def RF (P:Program) (ρ:Rho) (g:Nat) (xs:List V) (m:Mm) (e:Ex) (s':St):Prop :=
 ∃ v,e = .val v∧(∃ fn,P.funcs[g]?=some fn∧fn.body.isNone=false)∧∀ (w0:World) (E:Env) (us:List Value) (w:World) (K:Ending→World→Prop),E.ρ=ρ→VRs E xs us→Wr w0 E m.H.get w→Fresh E m.c s'.m.c →
  (∀ E' u w',Nx w0 E m.H.get m.c w E' s'.m.H.get s'.m.c s'.m.wl w'→VR E' v u→K (.returned u) w')→Calls P g us.toArray w K
def SF (P:Program) (O:Ora) (ρ:Rho) (f:Nat):Prop:=∀ g xs m ls,go P O f (.call g xs m)=some ls→PC ρ m.pc→Good ρ m ls (RF P ρ g xs m)
def OraOK (P:Program) (O:Ora) (ρ:Rho):Prop:=∀ g xs m ls,O.f g xs m=some ls→PC ρ m.pc→Good ρ m ls (RF P ρ g xs m)
def RS (P:Program) (ρ:Rho) (n:Nat) (o:Oper) (F:Fm) (m:Mm) (e:Ex) (s':St):Prop:=∃ v,e = .val v∧OpS P ρ n F m.H m.c s'.m.H s'.m.c s'.m.wl v o
theorem folv_ok {P:Program} {E:Env} {g:Nat} {w:World}:∀ {path:List FieldStep} {b off:Nat} {t xt:TypeId} {b' off':Nat},folv P path b off t=some (xt,b',off')→E.ν b=some g→E.ν b'=some g∧(follow path t (.var ⟨g,off,none⟩)).run P w = .ok (xt,.var ⟨g,off',none⟩) w
 | [],b,off,t,xt,b',off',h,hg=>by
  cases h
  exact ⟨hg,by simp [follow]⟩
 | s :: r,b,off,t,xt,b',off',h,hg=>by
  unfold folv at h
  split at h <;> first | (cases h; done) | skip
  rename_i f hd hf
  split at h <;> first | (cases h; done) | skip
  rename_i m hm
  obtain ⟨fs,h1,h2⟩:=fdv_ok hf
  obtain ⟨h3,h4⟩:=folv_ok (w:=w) h hg
  refine ⟨h3,?_⟩
  rw [follow]
  simp only [Sem.run_bind,Sem.run_pure,Result.andThen_ok,run_underlying h1,h2,hd,Bool.false_eq_true,if_false,fieldPlace,run_size (szv_ok hm),Nat.add_eq_zero_iff,Nat.succ_ne_zero,Nat.one_ne_zero,and_false,addr_add]
  exact h4
theorem method_ok {P:Program} {E:Env} {t:TypeId} {v r:V} {vv:Value} {m:String} {i:TypeInfo} {q:Method} {f:FuncId} {w:World} (hi:P.info? t=some i) (hq:i.methods.toList.find? (fun q=>q.name == m)=some q) (hf:q.func=some (f,true)) (hr:recvV P t v q.path.toList=some r) (hv:VR E v vv) :
  ∃ rr,VR E r rr∧(method (P.types.size+Made.depth) t vv m).run P w = .ok (f,rr) w:=by
 obtain ⟨k,hk⟩:∃ k,P.types.size+Made.depth=k+1:=Nat.exists_eq_succ_of_ne_zero (by unfold Made.depth; omega)
 have hq':i.methods.find? (fun q=>q.name == m)=some q:=by rw [← Array.find?_toList]; exact hq
 have hti:(typeInfo t).run P w = .ok i w:=by unfold typeInfo; simp [program,Sem.run,hi]
 unfold recvV at hr
 split at hr
 ·rename_i hp
  split at hr <;> first | (cases hr; done) | skip
  rename_i e hd
  cases hr
  refine ⟨vv,hv,?_⟩
  rw [hk,method]
  simp [Sem.run_bind,hti,hq',hp,follow,hf,receiverAt,run_underlying hd,Place.get]
 ·rename_i s rp hp
  split at hr <;> first | (cases hr; done) | skip
  rename_i b off f' hsd hfd
  split at hr <;> first | (cases hr; done) | skip
  rename_i mm hm
  split at hr <;> first | (cases hr; done) | skip
  rename_i xt b' off' hfo
  obtain ⟨g,hg,rfl⟩:=hv
  obtain ⟨h3,h4⟩:=folv_ok (w:=w) hfo hg
  obtain ⟨fs,h1,h2⟩:=fdv_ok hfd
  split at hr <;> first | (cases hr; done) | skip
  rename_i d hne hd
  cases hr
  refine ⟨.pointer (some ⟨g,off',none⟩),⟨g,h3,rfl⟩,?_⟩
  have hfol:(follow q.path.toList t (.val (.pointer (some ⟨g,off,none⟩)))).run P w = .ok (xt,.var ⟨g,off',none⟩) w:=by
   rw [hp,follow]
   simp only [Sem.run_bind,Sem.run_pure,Result.andThen_ok,run_underlying h1,h2,hsd,if_true,Place.get,asAddr,fieldPlace,run_size (szv_ok hm),Nat.add_eq_zero_iff,Nat.succ_ne_zero,Nat.one_ne_zero,and_false,if_false,addr_add]
   exact h4
  have hrec:∀ wr,(receiverAt xt (.var ⟨g,off',none⟩) true wr).run P w = .ok (.pointer (some ⟨g,off',none⟩)) w:=fun wr=>by
   unfold receiverAt
   rw [Sem.run_bind,run_underlying hd]
   cases d <;> first | exact absurd rfl (hne _) | simp
  rw [hk,method]
  simp only [Sem.run_bind,hti,Result.andThen_ok,hq',hfol,hf,hrec,Sem.run_pure]
theorem step1_eq (P:Program) (run:Task→Option Lv) (o:Oper) (s:St):step1 P run o s=match qk o.op with
 | true=>needs s.m (fun m=>match qop P s.F m.H o.op with
  | some (v,_)=>some [(.val v,⟨.nil,m⟩)]
  | none=>none) (qneed s.F o.op)
 | false=>match o.op with
  | .call c=>match c.callee with
   | .builtin _=>match eop P s.F s.m o.dst (.call c) with
    | some (v,m)=>some [(.val v,⟨.nil,m⟩)]
    | none=>none
   | _=>match target P s.F c with
    | some (f,xs)=>run (.call f xs s.m)
    | none=>none
  | op=>match eop P s.F s.m o.dst op with
   | some (v,m)=>some [(.val v,⟨.nil,m⟩)]
   | none=>none:=by
 obtain ⟨F,m⟩:=s
 have hq:s_q P F o.op=fun m=>match qop P F m.H o.op with
  | some (v,_)=>some [(.val v,⟨.nil,m⟩)]
  | none=>none:=by
  funext m
  unfold s_q
  simp only [qopK_eq]
  rfl
 have he:∀ op,s_e P F m o.dst op=match eop P F m o.dst op with
  | some (v,m)=>some [(.val v,⟨.nil,m⟩)]
  | none=>none:=fun op=>by
  unfold s_e
  simp only [eopK_eq]
  rfl
 unfold step1
 simp only [hq,he,qneedK_eq]
 cases qk o.op with
 | true=>rfl
 | false =>
  cases o.op <;> first
   | rfl
   | (rename_i c; show s_call P run F m o.dst c=_; unfold s_call; simp only [he]; cases c.callee <;> rfl)
theorem step1_ok {P : Program} {O : Ora} {ρ : Rho} {f : Nat} (hng : ∀ (g : Nat) (fn : Func), P.funcs[g]? = some fn → (fn.name == "runtime.NumGoroutine") = false) (hf : SF P O ρ f) {n : Nat} {o : Oper} {s : St} {ls : Lv} (h : step1 P (go P O f) o s = some ls) (hp : PC ρ s.m.pc) : Good ρ s.m ls (RS P ρ n o s.F s.m) := by
  rw [step1_eq] at h
  split at h
  · refine needs_ok h hp (fun pc rs' h1 hp1 hneed=>?_)
    split at h1 <;> first | (cases h1; done) | skip
    rename_i v rd hq
    cases h1
    refine Good.one hp1 (Sta.wpc s.m pc) ⟨v,rfl,fun w0 E a w k Q hρ ⟨FL,hfr,hF⟩ hw hfs hk=>?_⟩
    obtain ⟨u,hu,hr⟩:=qop_ok (by rw [hρ]; exact hneed) hq rfl hF hfr hw
    exact Does.wp (.inl (hr w (fun _ _ _ _=>rfl))) (hk E u w (Nx.refl hw _ _) hu)
  · have eff:∀ op v m',o.op=op→eop P s.F s.m o.dst op=some (v,m')→Good ρ s.m [(.val v,⟨.nil,m'⟩)] (RS P ρ n o s.F s.m):=by
      intro op v m' ho he
      obtain ⟨h1,h2⟩:=eop_sta he
      refine Good.one (by show PC ρ m'.pc; rw [h2]; exact hp) h1 ⟨v,rfl,fun w0 E a w k Q hρ ⟨FL,hfr,hF⟩ hw hfs hk=>?_⟩
      obtain ⟨u,w',E',h3,h4,h5⟩:=eop_ok hF hfr hw ho he hfs
      exact h3.wp (hk E' u w' h4 h5)
    split at h
    · rename_i c ho
      split at h
      · split at h <;> first | (cases h; done) | skip
        rename_i v m' he
        cases h
        exact eff _ v m' ho he
      · rename_i hnb
        split at h <;> first | (cases h; done) | skip
        rename_i g xs ht
        refine (hf _ _ _ _ h hp).mono (fun e s1 hs ⟨v,he,⟨fn,q2,q3⟩,q5⟩=>⟨v,he,fun w0 E a w k Q hρ ⟨FL,hfr,hF⟩ hw hfs hk=>?_⟩)
        have fin:∀ us:List Value,VRs E xs us→(execOp a.eval o).run P w = .ok (.enter g us.toArray) w→o.wp P a w k Q:=by
          intro us hus hrun
          unfold Oper.wp
          rw [hrun,Oper.upon_enter]
          exact q5 w0 E _ w _ hρ hus hw hfs (fun E' u w' hn hu=>hk E' u w' hn hu)
        have hname:=hng g fn q2
        unfold target at ht
        split at ht <;> first | (cases ht; done) | skip
        rename_i vs hvs
        obtain ⟨uvs,e1,r1⟩:=eos_ok hF hvs
        have ea:c.args.map a.eval=uvs.toArray:=Array.toList_inj.1 (by simpa using hfr.evs e1)
        split at ht <;> first | (cases ht; done) | skip
        · rename_i x hc
          split at ht <;> first | (cases ht; done) | skip
          rename_i g' us cs hx
          cases ht
          obtain ⟨_,e2,uus,ucs,r2,r3,rfl⟩:=eo_ok hF hx
          have hargs:uus.toArray ++ uvs.toArray ++ ucs.toArray=(uus ++ (uvs ++ ucs)).toArray:=by simp
          refine fin (uus ++ (uvs ++ ucs)) (by rw [ap_eq,ap_eq]; exact r2.app (r1.app r3)) ?_
          simp only [execOp,ho,resolve,hc,ea,hfr.ev e2,Deferred.ofValue,Sem.run_bind,Sem.run_pure,Result.andThen_ok,invoke,hargs,run_callFunc q2 q3 hname]
        · rename_i x m hc
          split at ht <;> first | (cases ht; done) | skip
          rename_i t v hx
          split at ht <;> first | (cases ht; done) | skip
          rename_i i hi
          split at ht <;> first | (cases ht; done) | skip
          rename_i q hq
          split at ht <;> first | (cases ht; done) | skip
          rename_i f' r hqf hrv
          cases ht
          obtain ⟨_,e2,vv,r2,rfl⟩:=eo_ok hF hx
          obtain ⟨rr,r3,r4⟩:=method_ok (w:=w) hi hq hqf hrv r2
          refine fin (rr :: uvs) ⟨rr,uvs,r3,r1,rfl⟩ ?_
          have hext:(#[Value.iface t vv] ++ uvs.toArray).extract 1 (#[Value.iface t vv] ++ uvs.toArray).size=uvs.toArray:=by
            apply Array.toList_inj.1
            simp
          have h0:(#[Value.iface t vv] ++ uvs.toArray)[0]?=some (.iface t vv):=by simp
          have hargs:#[rr] ++ uvs.toArray=(rr :: uvs).toArray:=by simp
          have hpg:(program).run P w = .ok P w:=by simp [program,Sem.run]
          simp only [execOp,ho,resolve,hc,ea,hfr.ev e2,Sem.run_bind,Sem.run_pure,Result.andThen_ok,invoke,h0,hext,callMethod,hpg,r4,hargs,run_callFunc q2 q3 hname]
    · split at h <;> first | (cases h; done) | skip
      rename_i v m' he
      cases h
      exact eff _ v m' rfl he
end Go.Run
namespace Go.Run
open Go.Eng
set_option linter.unusedVariables false
set_option linter.unusedSimpArgs false
def SC (P:Program) (O:Ora) (ρ:Rho) (f:Nat):Prop:=∀ n c s ls,go P O f (.code n c s)=some ls→PC ρ s.m.pc→Good ρ s.m ls (RC ρ n s.F s.m (c.wp P))
def SL (P:Program) (O:Ora) (ρ:Rho) (f:Nat):Prop:=∀ n c s ls,go P O f (.code n (.loop c) s)=some ls→PC ρ s.m.pc→Good ρ s.m ls (RC ρ n s.F s.m (fun Q a w=>Code.rounds P c Q f a w))
def SO (P:Program) (O:Ora) (ρ:Rho) (f:Nat):Prop:=∀ n (ops:Array Oper) k s ls,go P O f (.ord n ops.toList (ops.toList.drop k) s)=some ls→PC ρ s.m.pc→Good ρ s.m ls (fun e s'=>e = .nx∧RC ρ n s.F s.m (fun Q a w=>wpOps P ops Q (List.range' k (ops.size - k)) a w) e s')
def SA (P:Program) (O:Ora) (ρ:Rho) (f:Nat):Prop:=∀ n (ops:Array Oper) (m0:Mm) F0 es s ls,go P O f (.reg n ops.toList (ops.toList.drop es.length) (es.map (·.r)) s)=some ls→PC ρ s.m.pc→Tr P ρ n ops F0 m0.H.get m0.c es →
 (∀ t,s.F.get t=FD All F0 es t)→(∀ b,s.m.H.get b=HD All m0.H.get es b)→s.m.c=cAt m0.c es→s.m.wl=wlAt m0.wl es →
 Good ρ m0 ls (fun e s'=>e = .nx∧∃ es',Tr P ρ n ops F0 m0.H.get m0.c es'∧es'.length=ops.size∧(∀ t,s'.F.get t=FD All F0 es' t)∧(∀ b,s'.m.H.get b=HD All m0.H.get es' b)∧s'.m.c=cAt m0.c es'∧s'.m.wl=wlAt m0.wl es')
theorem put_m (s:St) (d:Option Nat) (v:V):(s.put d v).m=s.m:=by cases d <;> rfl
theorem dOk_put {E E':Env} {s:St} {n:Nat} {a:Act} {o:Oper} {v:V} {u:Value} (hfa:FA E s.F n a) (hx:Ext E E') (hd:dOk n o.dst=true) (hv:VR E' v u):FA E' (s.put o.dst v).F n (a.put o.dst u):=by
 obtain ⟨FL,hfr,hF⟩:=hfa
 cases h:o.dst with
 | none=>exact ⟨FL,hfr.putNone u,hF.mono hx⟩
 | some d=>rw [h] at hd; exact ⟨_,hfr.put (blt_lt hd) u,(hF.mono hx).put d hv⟩
section
variable {P:Program} {O:Ora} {ρ:Rho} {f:Nat}
theorem go_ord (n:Nat) (all rest:List Oper) (s:St):go P O (f+1) (.ord n all rest s)=match rest with
  | []=>some [(.nx,s)]
  | o :: r=>match dOk n o.dst,gv all s.F o.guard with
   | true,some true=>match step1 P (go P O f) o s with
    | some l=>bindL (fun e s'=>match e with
     | .val v=>forkB all o.dst v s'.m (fun v m=>go P O f (.ord n all r (St.put ⟨s.F,m⟩ o.dst v)))
     | .pan=>some [(.pan,s')]
     | _=>none) l
    | none=>none
   | true,some false=>go P O f (.ord n all r (s.put o.dst .und))
   | _,_=>none:=rfl
theorem so_step (hng : ∀ (g : Nat) (fn : Func), P.funcs[g]? = some fn → (fn.name == "runtime.NumGoroutine") = false) (hO : SO P O ρ f) (hF : SF P O ρ f) : SO P O ρ (f + 1) := by
  intro n ops k s ls h hp
  rw [go_ord] at h
  split at h
  · rename_i hd
    cases h
    refine Good.one hp (Sta.refl _) ⟨rfl,fun w0 E a w Q hρ hfa hw hf np hto=>?_⟩
    have hk:ops.size - k=0:=by
      have:=congrArg List.length hd
      simpa using this
    rw [hk]
    exact hto E a w (Nx.refl hw _ _) hfa
  · rename_i o r hd
    have hok:ops[k]?=some o:=by
      have:=congrArg (·[0]?) hd
      simpa using this
    have hr:r=ops.toList.drop (k+1):=by rw [← List.drop_drop (i:=1) (j:=k),hd]; rfl
    have hlt:k<ops.size:=(Array.getElem?_eq_some_iff.1 hok).1
    have hrg:List.range' k (ops.size - k)=k :: List.range' (k+1) (ops.size - (k+1)):=by
      rw [show ops.size - k=(ops.size - (k+1))+1 by omega,List.range'_succ]
    subst hr
    split at h <;> first | (cases h; done) | skip
    · rename_i hdk hg
      split at h <;> first | (cases h; done) | skip
      rename_i l h1
      refine (step1_ok (n:=n) hng hF h1 hp).bind h (fun s r hr=>by cases hr; rfl) (fun e s1 rs hk hp1 S1 hrs=>?_)
      obtain ⟨v,rfl,hop⟩:=hrs
      refine forkB_ok hk hp1 (fun v' pc rs' h2 hpc hv=>?_)
      have ih:=hO n ops (k+1) _ rs' h2 (by rw [put_m]; exact hpc)
      rw [put_m] at ih
      refine (ih.mono (fun e s2 S2 ⟨he,hrc⟩=>⟨he,?_⟩)).from (S1.trans (Sta.wpc _ _))
      intro w0 E a w Q hρ hfa hw hf np hto
      show wpOps P ops Q (List.range' k (ops.size - k)) a w
      rw [hrg]
      simp only [wpOps,hok]
      obtain ⟨FL,hfr,hF'⟩:=hfa
      rw [if_pos (gv_ok hF' hfr hg)]
      refine .inl (hop w0 E a w _ Q hρ ⟨FL,hfr,hF'⟩ hw (hf.sub (Nat.le_refl _) S2.le) (fun E' u w' hn hu=>?_))
      exact hrc w0 E' _ w' Q (hn.ext.ρ.trans hρ) (dOk_put ⟨FL,hfr,hF'⟩ hn.ext hdk (hv E' u (hn.ext.ρ.trans hρ) hu)) hn.wr (hn.fresh hf S1.le) np (hto.trans hn (S1.trans (Sta.wpc _ pc)) S2 hf)
    · rename_i hdk hg
      have ih:=hO n ops (k+1) _ ls h (by rw [put_m]; exact hp)
      rw [put_m] at ih
      refine ih.mono (fun e s2 S2 ⟨he,hrc⟩=>⟨he,?_⟩)
      intro w0 E a w Q hρ hfa hw hf np hto
      show wpOps P ops Q (List.range' k (ops.size - k)) a w
      rw [hrg]
      simp only [wpOps,hok]
      obtain ⟨FL,hfr,hF'⟩:=hfa
      rw [if_neg (by rw [gv_ok hF' hfr hg]; decide)]
      exact hrc w0 E _ w Q hρ (dOk_put ⟨FL,hfr,hF'⟩ (Ext.refl E) hdk rfl) hw hf np hto
theorem go_reg (n:Nat) (all rest:List Oper) (rs:List Rec) (s:St):go P O (f+1) (.reg n all rest rs s)=match rest with
  | []=>some [(.nx,s)]
  | o :: r=>match preM rs (ln rs) o.after.toList 0,dOk n o.dst,(match o.dst with | some d=>isD rs d | none=>false) with
   | some pre,true,false=>regOp P (go P O f) n all r o rs s pre (outs rs (ln rs) pre) (maskF (outs rs (ln rs) pre) s.F (ap (gTmp all o.guard) (tmpsOf o.op.operands.toList)) .nil)
   | _,_,_=>none:=rfl
theorem regOn_eq (run:Task→Option Lv) (n:Nat) (all r:List Oper) (o:Oper) (rs:List Rec) (s:St) (pre:Nat) (us:List Rec) (F:Fm) (K:PT Ob):regOn P run n all r o rs s pre us F K =
 match step1 P run o ⟨F,⟨K,s.m.c,[],s.m.pc⟩⟩ with
 | some l=>bindL (fun e s'=>match e with
  | .val v=>match clash us s'.m.wl with
   | true=>none
   | false=>forkB all o.dst v s'.m (fun v m=>run (.reg n all r (⟨o.dst,pre,m.wl,s.m.c,m.c,K⟩ :: rs)
     (St.put ⟨s.F,⟨merge (full us o.op) s.m.H m.H m.wl s.m.c m.c,m.c,ap m.wl s.m.wl,m.pc⟩⟩ o.dst v)))
  | .pan=>some [(.pan,s')]
  | _=>none) l
 | none=>none:=rfl
theorem regOp_eq (run:Task→Option Lv) (n:Nat) (all r:List Oper) (o:Oper) (rs:List Rec) (s:St) (pre:Nat) (us:List Rec) (F:Fm):regOp P run n all r o rs s pre us F =
 match gv all F o.guard with
 | some false=>run (.reg n all r (⟨o.dst,pre,[],s.m.c,s.m.c,.e⟩ :: rs) (s.put o.dst .und))
 | some true=>regOn P run n all r o rs s pre us F (maskM us F s.m.H o.op)
 | none=>none:=rfl
theorem put_get (s:St) (d:Option Nat) (v:V) (t:Nat):(s.put d v).F.get t=if d=some t then some v else s.F.get t:=by
 cases d with
 | none=>simp [St.put]
 | some x =>
  show (s.F.put x (some v)).get t=_
  by_cases h:t=x
  ·subst h; rw [Fm.put_same,if_pos rfl]
  ·rw [Fm.put_other _ _ h,if_neg (fun e=>h (by injection e with e; exact e.symm))]
theorem outs_sub:∀ {rs:List Rec} {j a:Nat} {x:Rec},x∈outs rs j a→x∈rs
 | [],j,a,x,hx=>by cases j <;> exact hx
 | y :: r,0,a,x,hx=>by cases hx
 | y :: r,j+1,a,x,hx=>by
  rw [outs_eq] at hx
  split at hx
  ·exact List.mem_cons_of_mem _ (outs_sub hx)
  ·rcases List.mem_cons.1 hx with rfl | hx
   ·exact List.mem_cons_self
   ·exact List.mem_cons_of_mem _ (outs_sub hx)
theorem Tr.cc {n:Nat} {ops:Array Oper} {F0:Nat→Option V} {H0:Nat→Option Ob} {c0:Nat}:∀ {es:List En},Tr P ρ n ops F0 H0 c0 es→∀ e∈es,e.r.c≤e.r.c'
 | [],_,e,he=>by cases he
 | e0 :: r,h,e,he=>by
  cases h with
  | cons h1 h2 =>
   rcases List.mem_cons.1 he with rfl | he
   ·exact h1.cc
   ·exact Tr.cc h2 e he
theorem sa_step (hng : ∀ (g : Nat) (fn : Func), P.funcs[g]? = some fn → (fn.name == "runtime.NumGoroutine") = false) (hA : SA P O ρ f) (hF : SF P O ρ f) : SA P O ρ (f + 1) := by
  intro n ops m0 F0 es s ls h hp ht hFe hHe hce hwe
  rw [go_reg] at h
  split at h
  · rename_i hd
    cases h
    have hle:ops.size≤es.length:=by
      have:=congrArg List.length hd
      simp at this
      omega
    have hlen:es.length=ops.size:=by
      cases es with
      | nil=>exact (Nat.le_zero.1 hle).symm
      | cons e r =>
        cases ht with
        | cons h1 h2 =>
          have:=(Array.getElem?_eq_some_iff.1 h1.at_).1
          simp at hle ⊢
          omega
    have hSta:Sta m0 s.m:=by
      refine ⟨by rw [hce]; exact cAt_mono ht,fun b hb=>?_,fun b hb=>?_,fun b hb=>?_,fun b hb hr=>?_⟩
      · rw [hwe]
        clear hFe hHe hce hwe hle hlen ht hd
        induction es with
        | nil=>exact hb
        | cons e r ih=>exact List.mem_append_right _ ih
      · rw [hwe] at hb; rw [hce]; exact wl_live ht hb
      · rw [hHe] at hb; rw [hce]; exact HD_live ht hb
      · rw [hwe] at hb; rw [hce] at hr; rw [hHe]; exact HD_same ht hb hr
    exact Good.one hp hSta ⟨rfl,es,ht,hlen,hFe,hHe,hce,hwe⟩
  · rename_i o r hd
    have hok:ops[es.length]?=some o:=by
      have:=congrArg (·[0]?) hd
      simpa using this
    have hr:r=ops.toList.drop (es.length+1):=by rw [← List.drop_drop (i:=1) (j:=es.length),hd]; rfl
    subst hr
    rw [ln_eq,List.length_map] at h
    split at h <;> first | (cases h; done) | skip
    rename_i pre hpre hdk hdd
    obtain ⟨p1,p2⟩:=preM_ok hpre
    have hnd:∀ i e',atI es i=some e'→∀ t,o.dst=some t→e'.r.dst≠some t:=by
      intro i e' hi t hdt
      rw [hdt] at hdd
      obtain ⟨_,_,_,_,q,hq⟩:=ht.at_ hi
      exact isD_ok hdd _ (List.mem_map.2 ⟨e',by rw [hq]; simp,rfl⟩)
    have hus:∀ i e',atI es i=some e'→¬ bit pre i→e'.r∈outs (es.map (·.r)) es.length pre:=fun i e' hi hb=>outs_ok hi hb
    have husc:∀ x∈outs (es.map (·.r)) es.length pre,x.c≤x.c':=by
      intro x hx
      obtain ⟨e',he',rfl⟩:=List.mem_map.1 (outs_sub hx)
      exact Tr.cc ht e' he'
    have hfr:∀ t v,(maskF (outs (es.map (·.r)) es.length pre) s.F (ap (gTmp ops.toList o.guard) (tmpsOf o.op.operands.toList)) .nil).get t=some v→FD All F0 es t=some v∧∀ i e',atI es i=some e'→¬ bit pre i→e'.r.dst≠some t:=by
      intro t v hv
      rcases maskF_ok hv with h1 | ⟨h1,h2⟩
      · rw [show (Fm.nil).get t=none from Fm.get_nil 0 t] at h1; cases h1
      · exact ⟨by rw [← hFe]; exact h1,fun i e' hi hb=>h2 _ (hus i e' hi hb)⟩
    have hpre':∀ i,bit pre i→i<es.length∧∃ x∈o.after,Region.binds .any x=true∧(i=x.on∨∃ e',atI es x.on=some e'∧bit e'.r.pre i):=by
      intro i hi
      rcases p1 i hi with h1 | ⟨x,hx,hb,h1⟩
      · exact absurd h1 bit_zero
      · have hlt:=p2 x hx hb
        refine ⟨?_,x,by simpa using hx,hb,h1⟩
        rcases h1 with rfl | ⟨e',h3,h4⟩
        · exact hlt
        · obtain ⟨r',k1,k2,_⟩:=ht.at_ h3
          have:=(k1.pre i h4).1
          omega
    rw [regOp_eq] at h
    split at h <;> first | (cases h; done) | skip
    · rename_i hg
      let e:En:=⟨⟨o.dst,pre,[],s.m.c,s.m.c,.e⟩,o,.und,maskF (outs (es.map (·.r)) es.length pre) s.F (ap (gTmp ops.toList o.guard) (tmpsOf o.op.operands.toList)) .nil,.e,false⟩
      have hnt:∀ b,¬ Tch e.r b:=by
        rintro b (hb | hb)
        · cases hb
        · have h1:s.m.c≤b:=hb.1
          have h2:b<s.m.c:=hb.2
          omega
      have hen:EnOK P ρ n ops F0 m0.H.get m0.c e es:={ at_:=hok,dst:=rfl,dOk:=hdk,pre:=hpre',aft:=fun x hx hb=>p2 x (by simpa using hx) hb,fr:=hfr,hp:=fun b ob hb=>(by have hb:(PT.e:PT Ob).get b=some ob:=hb; rw [PT.get_e] at hb; cases hb),cl:=fun _ _ _ _ b hb=>(by cases hb),nd:=fun i e' hi t hdt=>hnd i e' hi t hdt,c:=hce,cc:=Nat.le_refl _,wlive:=fun b hb=>(by cases hb),live:=fun b hb=>(by have hb:(PT.e:PT Ob).get b≠none:=hb; rw [PT.get_e] at hb; exact absurd rfl hb),guard:=hg,off:=fun _=>⟨rfl,rfl,rfl⟩,sem:=fun h=>(by cases h) }
      refine hA n ops m0 F0 (e :: es) _ ls h (by rw [put_m]; exact hp) (.cons hen ht) (fun t=>?_) (fun b=>?_) ?_ ?_
      · rw [put_get]
        show _=if All es.length=true∧o.dst=some t then some .und else FD All F0 es t
        rw [hFe]
        simp [All]
      · rw [put_m]
        show _=if All es.length=true∧Tch e.r b then _ else HD All m0.H.get es b
        rw [if_neg (fun h=>hnt b h.2)]
        exact hHe b
      · rw [put_m]; rfl
      · rw [put_m]; exact hwe
    · rename_i hg
      rw [regOn_eq] at h
      split at h <;> first | (cases h; done) | skip
      rename_i l h1
      refine (step1_ok (n:=n) hng hF h1 hp).bind h (fun s r hr=>by cases hr; rfl) (fun e1 s1 rs hk hp1 S1 hrs=>?_)
      obtain ⟨v,rfl,hop⟩:=hrs
      dsimp only at hk
      split at hk <;> first | (cases hk; done) | skip
      rename_i hcl
      refine forkB_ok hk hp1 (fun v' pc rs' h2 hpc hv=>?_)
      let K:=maskM (outs (es.map (·.r)) es.length pre) (maskF (outs (es.map (·.r)) es.length pre) s.F (ap (gTmp ops.toList o.guard) (tmpsOf o.op.operands.toList)) .nil) s.m.H o.op
      let e:En:=⟨⟨o.dst,pre,s1.m.wl,s.m.c,s1.m.c,K⟩,o,v',maskF (outs (es.map (·.r)) es.length pre) s.F (ap (gTmp ops.toList o.guard) (tmpsOf o.op.operands.toList)) .nil,s1.m.H,true⟩
      have hsem:OpS P ρ n e.F e.r.H e.r.c e.K e.r.c' e.r.wl e.v e.o:=fun w0 E a w k Q hρ hfa hw hfs hkk=>hop w0 E a w k Q hρ hfa hw hfs (fun E' u w' hn hu=>hkk E' u w' hn (hv E' u (hn.ext.ρ.trans hρ) hu))
      have hhp:∀ b ob,e.r.H.get b=some ob→HD All m0.H.get es b=some ob∧∀ i e',atI es i=some e'→¬ bit pre i→¬ Tch e'.r b:=fun b ob hb=>by
        obtain ⟨q1,q2⟩:=maskM_ok husc hb
        exact ⟨by rw [← hHe]; exact q1,fun i e' hi hbi=>q2 _ (hus i e' hi hbi)⟩
      have hwl:∀ b∈e.r.wl,e.r.H.get b≠none∨(e.r.c≤b∧b<e.r.c'):=fun b hb=>by
        rcases S1.wlive b hb with h3 | h3 | h3
        · cases h3
        · exact .inl h3
        · exact .inr h3
      have hen:EnOK P ρ n ops F0 m0.H.get m0.c e es:={ at_:=hok,dst:=rfl,dOk:=hdk,pre:=hpre',aft:=fun x hx hb=>p2 x (by simpa using hx) hb,fr:=hfr,hp:=hhp,cl:=fun i e' hi hbi b hb=>clash_ok hcl _ (hus i e' hi hbi) b hb,nd:=fun i e' hi t hdt=>hnd i e' hi t hdt,c:=hce,cc:=S1.le,wlive:=hwl,live:=fun b hb=>S1.live b hb,guard:=hg,off:=fun h=>(by cases h),sem:=fun _=>hsem }
      refine hA n ops m0 F0 (e :: es) _ rs' h2 (by rw [put_m]; exact hpc) (.cons hen ht) (fun t=>?_) (fun b=>?_) ?_ ?_
      · rw [put_get]
        show _=if All es.length=true∧o.dst=some t then some v' else FD All F0 es t
        rw [hFe]
        simp [All]
      · rw [put_m]
        show (merge (full (outs (es.map (·.r)) es.length pre) o.op) s.m.H s1.m.H s1.m.wl s.m.c s1.m.c).get b=if All es.length=true∧Tch e.r b then s1.m.H.get b else HD All m0.H.get es b
        rw [merge_ok (r:=e.r) S1.le rfl (fun hfl b hnb=>?_),hHe]
        · simp [All]
        · have hK:K=s.m.H:=by
            show maskM _ _ _ _=_
            unfold maskM
            rw [hfl]
          have h5:=S1.same b (fun hm=>hnb (.inl hm)) (by
            rcases Nat.lt_or_ge b s.m.c with h6 | h6
            · exact .inl h6
            · rcases Nat.lt_or_ge b s1.m.c with h7 | h7
              · exact absurd (show Tch e.r b from .inr ⟨h6,h7⟩) hnb
              · exact .inr h7)
          rw [h5]
          show K.get b=_
          rw [hK]
      · rw [put_m]; rfl
      · rw [put_m]
        show ap s1.m.wl s.m.wl=s1.m.wl ++ wlAt m0.wl es
        rw [ap_eq,hwe]
end
end Go.Run
namespace Go.Run
open Go.Eng Go.RowKit
set_option linter.unusedVariables false
set_option linter.unusedSimpArgs false
section
variable {P:Program} {O:Ora} {ρ:Rho} {f:Nat}
theorem nx_uni {w0:World} {E E':Env} {m m':Mm} {w w':World} (hw:Wr w0 E m.H.get w) (hf:Fresh E m.c m'.c) (h:Nx w0 E m.H.get m.c w E' m'.H.get m'.c m'.wl w') (wl:List Nat):Nx w0 E m.H.get m.c w E' m'.H.get m'.c (uni m.c m'.c m'.wl wl) w':=by
 have key:∀ b∈m'.wl,m.H.get b≠none→b∈uni m.c m'.c m'.wl wl:=fun b hb hl=>by
  refine uni_iff.2 (.inl ⟨hb,fun ⟨h1,h2⟩=>?_⟩)
  cases e:m.H.get b with
  | none=>exact hl e
  | some o =>
   obtain ⟨g,_,hg,_⟩:=hw.lr b o e
   rw [(hf b h1 h2).1] at hg
   cases hg
 refine ⟨h.ext,h.wr,h.size,fun b g hb=>?_,h.kap,fun g hg hn=>h.keep g hg (fun b hb hl=>hn b (key b hb hl) hl),fun b hb hr=>?_,h.live⟩
 ·rcases h.nu b g hb with h1 | ⟨h1,h2,h3⟩
  ·exact .inl h1
  ·refine .inr ⟨h1,h2,h3.imp id (fun ⟨b0,h4,h5,h6⟩=>⟨b0,key b0 h4 h5,h5,h6⟩)⟩
 ·refine h.same b (fun hm=>hb (uni_iff.2 (.inl ⟨hm,by omega⟩))) hr
theorem sta_uni {m m':Mm} (h:Sta ⟨m.H,m.c,[],m.pc⟩ m'):Sta m ⟨m'.H,m'.c,uni m.c m'.c m'.wl m.wl,m'.pc⟩:=by
 refine ⟨h.le,fun b hb=>uni_iff.2 (.inr hb),fun b hb=>?_,h.live,fun b hb hr=>h.same b (fun hm=>hb (uni_iff.2 (.inl ⟨hm,?_⟩))) hr⟩
 ·rcases uni_iff.1 hb with ⟨h1,h2⟩ | h1
  ·rcases h.wlive b h1 with h3 | h3 | h3
   ·cases h3
   ·exact .inr (.inl h3)
   ·exact .inr (.inr h3)
  ·exact .inl h1
 ·have hr:b<m.c∨m'.c≤b:=hr
  omega
theorem go_call (g:Nat) (xs:List V) (m:Mm):go P O (f+1) (.call g xs m)=match O.f g xs m with
  | some l=>some l
  | none=>match P.funcs[g]? with
   | some fn=>match fn.body,Nat.ble (ln xs) fn.ntmps with
    | some body,true=>match go P O f (.code fn.ntmps body ⟨enumV 0 xs ⟨O.nv g,.e,[]⟩,⟨m.H,m.c,[],m.pc⟩⟩) with
     | some l=>bindL (fun e s=>match e with
      | .ret=>(match rvs P s.F s.m.H fn.results.toList with | some vs=>some [(.val (packR vs),⟨.nil,⟨s.m.H,s.m.c,uni m.c s.m.c s.m.wl m.wl,s.m.pc⟩⟩)] | none=>none)
      | .nx=>(match rvs P s.F s.m.H fn.results.toList with | some vs=>some [(.val (packR vs),⟨.nil,⟨s.m.H,s.m.c,uni m.c s.m.c s.m.wl m.wl,s.m.pc⟩⟩)] | none=>none)
      | .pan=>some [(.pan,s)]
      | _=>none) l
     | none=>none
    | _,_=>none
   | none=>none:=rfl
theorem sf_step (hO:OraOK P O ρ) (hC:SC P O ρ f):SF P O ρ (f+1):=by
 intro g xs m ls h hp
 rw [go_call] at h
 split at h
 ·rename_i l hl
  cases h
  exact hO _ _ _ _ hl hp
 ·split at h <;> first | (cases h; done) | skip
  rename_i fn hfn
  split at h <;> first | (cases h; done) | skip
  rename_i body hbd hlen
  have hlen:=Nat.le_of_ble_eq_true hlen
  rw [ln_eq] at hlen
  split at h <;> first | (cases h; done) | skip
  rename_i l hgo
  refine (hC _ _ _ _ hgo hp).bind h (fun s r hr=>by cases hr; rfl) (fun e s1 rs hk hp1 S1 hrc=>?_)
  have main:(e = .ret∨e = .nx)→(match rvs P s1.F s1.m.H fn.results.toList with | some vs=>some [(Ex.val (packR vs),(⟨.nil,⟨s1.m.H,s1.m.c,uni m.c s1.m.c s1.m.wl m.wl,s1.m.pc⟩⟩:St))] | none=>none)=some rs→Good ρ m rs (RF P ρ g xs m):=by
   intro he hres
   split at hres <;> first | (cases hres; done) | skip
   rename_i vs hvs
   cases hres
   refine Good.one hp1 (sta_uni S1) ⟨_,rfl,⟨fn,hfn,by rw [hbd]; rfl⟩,fun w0 E us w K hρ hx hw hf hK=>?_⟩
   refine Calls.mono (R:=fun e w'=>(∃ u,e = .returned u)∧K e w') ?_ (fun e w h=>h.2)
   refine calls_of_wp hfn hbd ?_
   refine hrc w0 E _ w _ hρ ⟨_,fr0 (by rw [hx.len]; exact hlen),frame0 (O.nv g) hx⟩ hw hf ⟨fun ch a w hq=>?_,fun a w hq=>?_⟩ (fun E' a' w' hn hfa=>?_)
   ·obtain ⟨_,⟨u,hu⟩,_⟩:=hq
    cases hu
   ·obtain ⟨⟨u,hu⟩,_⟩:=hq
    cases hu
   ·obtain ⟨FL,hfr,hF'⟩:=hfa
    obtain ⟨u,q1,q2⟩:=results_ok (fn:=fn) hF' hfr hn.wr hvs
    have hK':=hK E' u w' (nx_uni (m:=⟨m.H,m.c,[],m.pc⟩) (m':=s1.m) hw hf hn m.wl) q2
    rcases he with rfl | rfl
    ·exact ⟨hfr.defers,u,q1,⟨u,rfl⟩,hK'⟩
    ·exact ⟨hfr.defers,u,q1,⟨u,rfl⟩,hK'⟩
  cases e with
  | ret=>exact main (.inl rfl) hk
  | nx=>exact main (.inr rfl) hk
  | pan=>cases hk; exact Good.pan hp1
  | ex i=>cases hk
  | val v=>cases hk
theorem go_seq (n:Nat) (a b:Code) (s:St):go P O (f+1) (.code n (.seq a b) s)=match go P O f (.code n a s) with
   | some l=>bindL (fun e s'=>match e with | .nx=>go P O f (.code n b s') | e=>some [(e,s')]) l
   | none=>none:=rfl
theorem go_cond (n:Nat) (x:Operand) (a b:Code) (s:St):go P O (f+1) (.code n (.cond x a b) s)=match eo s.F x with
   | some (.bool e)=>dec s.m.pc e (fun t pc=>match t with
    | true=>go P O f (.code n a ⟨s.F,s.m.wpc pc⟩)
    | false=>go P O f (.code n b ⟨s.F,s.m.wpc pc⟩))
   | _=>none:=rfl
theorem go_block (n i:Nat) (a:Code) (s:St):go P O (f+1) (.code n (.block i a) s)=match go P O f (.code n a s) with
   | some l=>bindL (fun e s'=>match e with
    | .ex j=>(match Nat.beq j i with | true=>some [(.nx,s')] | false=>some [(.ex j,s')])
    | e=>some [(e,s')]) l
   | none=>none:=rfl
theorem go_loop (n:Nat) (a:Code) (s:St):go P O (f+1) (.code n (.loop a) s)=match go P O f (.code n a s) with
   | some l=>bindL (fun e s'=>match e with | .nx=>go P O f (.code n (.loop a) s') | e=>some [(e,s')]) l
   | none=>none:=rfl
theorem go_rord (n i:Nat) (ops:Array Oper) (s:St):go P O (f+1) (.code n (.region i ops false) s)=go P O f (.ord n ops.toList ops.toList ⟨s.F.fresh,s.m⟩):=rfl
theorem go_rany (n i:Nat) (ops:Array Oper) (s:St):go P O (f+1) (.code n (.region i ops true) s)=match Region.noSelect ops with
   | true=>go P O f (.reg n ops.toList ops.toList [] ⟨clean ops.toList s.F.fresh,s.m⟩)
   | false=>none:=rfl
theorem sl_step (hC:SC P O ρ f) (hL:SL P O ρ f):SL P O ρ (f+1):=by
 intro n c s ls h hp
 rw [go_loop] at h
 split at h <;> first | (cases h; done) | skip
 rename_i l h1
 refine (hC _ _ _ _ h1 hp).bind h (fun s r hr=>by cases hr; rfl) (fun e s1 rs hk hp1 S1 hrc=>?_)
 cases e with
 | nx =>
  refine ((hL _ _ _ _ hk hp1).mono (fun e2 s2 S2 hrc2=>?_)).from S1
  exact hrc.seq S1 hrc2 S2 (fun Q a w h=>by rw [rounds_succ]; exact h)
 | pan=>cases hk; exact Good.pan hp1
 | ret =>
  cases hk
  exact Good.one hp1 S1 (hrc.early (K:=fun Q a w=>Code.rounds P c Q f a w) (by simp) (fun Q a w h=>by rw [rounds_succ]; exact h))
 | ex i =>
  cases hk
  exact Good.one hp1 S1 (hrc.early (K:=fun Q a w=>Code.rounds P c Q f a w) (by simp) (fun Q a w h=>by rw [rounds_succ]; exact h))
 | val v =>
  cases hk
  exact Good.one hp1 S1 (hrc.early (K:=fun Q a w=>Code.rounds P c Q f a w) (by simp) (fun Q a w h=>by rw [rounds_succ]; exact h))
theorem drew_wr {w0:World} {E:Env} {H:Nat→Option Ob} {w:World} (h:Wr w0 E H w):Wr w0 E H { w with drawn:=w.drawn+1 } :=
 ⟨⟨h.agree.os,h.agree.tape,h.agree.output,h.agree.size,h.agree.frame⟩,h.lr,h.own,h.inj⟩
theorem FD_no {D:Nat→Bool} {F0:Nat→Option V}:∀ {es:List En} {t:Nat},(∀ i,i<es.length→D i=false)→FD D F0 es t=F0 t
 | [],t,_=>rfl
 | e :: r,t,h=>by
  show (if D r.length=true∧e.r.dst=some t then some e.v else FD D F0 r t)=_
  rw [if_neg (by rw [h r.length (by simp)]; simp),FD_no (fun i hi=>h i (by simp; omega))]
theorem HD_no {D:Nat→Bool} {H0:Nat→Option Ob}:∀ {es:List En} {t:Nat},(∀ i,i<es.length→D i=false)→HD D H0 es t=H0 t
 | [],t,_=>rfl
 | e :: r,t,h=>by
  show (if D r.length=true∧Tch e.r t then e.K.get t else HD D H0 r t)=_
  rw [if_neg (by rw [h r.length (by simp)]; simp),HD_no (fun i hi=>h i (by simp; omega))]
theorem region_any (hm:P.follows .mixedOrders=true) (hA:SA P O ρ f) {n i:Nat} {ops:Array Oper} {s:St} {ls:Lv} (hns:Region.noSelect ops=true) (h:go P O f (.reg n ops.toList ops.toList [] ⟨clean ops.toList s.F.fresh,s.m⟩)=some ls) (hp:PC ρ s.m.pc):Good ρ s.m ls (RC ρ n s.F s.m ((Code.region i ops true).wp P)):=by
 obtain ⟨q1,q2⟩:=clean_ok (l:=ops.toList) (F:=s.F.fresh)
 refine (hA n ops s.m (clean ops.toList s.F.fresh).get [] ⟨clean ops.toList s.F.fresh,s.m⟩ ls h hp .nil (fun t=>rfl) (fun b=>rfl) rfl rfl).mono (fun e s' S ⟨he,es,ht,hlen,hF,hH,hc,hwl⟩=>?_)
 subst he
 intro w0 E a w Q hρ hfa hw hf np hto
 refine wp_region_any hm ?_
 rw [hc] at hf
 have hlt:∀ i,i<ops.size→(Array.replicate ops.size false).getD i true=false:=fun i hi=>by
  rw [Array.getD_eq_getD_getElem?,Array.getElem?_replicate,if_pos hi]; rfl
 refine reg_all (w0:=w0) (ws:={ w with drawn:=w.drawn+1 }) (E0:=E) (wl0:=s.m.wl) ht hlen (fun b hb ⟨h1,h2⟩=>?_) hf (fun i o t ho hd=>q2 o (by rw [Array.mem_toList_iff]; exact Array.mem_of_getElem? ho) t hd) (fun E' a' w' hr=>?_) ops.size (Array.replicate ops.size false) (List.range ops.size) E a _ (by simp) List.nodup_range (by simp) (fun i hi=>by rw [hlt i hi]; simp [hi]) (fun i hi=>by simpa using hi) (fun k e hk hD=>?_) ?_
 ·cases e:s.m.H.get b with
  | none=>exact hb e
  | some o =>
   obtain ⟨g,_,hg,_⟩:=hw.lr b o e
   rw [(hf b h1 h2).1] at hg
   cases hg
 ·have eH:HD All s.m.H.get es=s'.m.H.get:=funext fun b=>(hH b).symm
  have hn:=hr.nx
  rw [eH,← hc,← hwl] at hn
  refine hto E' a' w' ⟨hn.ext,hn.wr,hn.size,hn.nu,hn.kap,hn.keep,hn.same,hn.live⟩ ?_
  obtain ⟨FL,h1,h2⟩:=hr.fa
  exact ⟨FL,h1,fun t v hv=>h2 t v (by rw [← hF]; exact hv)⟩
 ·have:=atI_lt hk
  have h1:=hlt k (by omega)
  have h2:(Array.replicate ops.size false).getD k true=true:=hD
  rw [h1] at h2
  cases h2
 ·have hno:∀ i,i<es.length→(fun i=>(Array.replicate ops.size false).getD i true) i=false:=fun i hi=>hlt i (by omega)
  obtain ⟨FL,h1,h2⟩:=hfa
  have eH:HD (fun i=>(Array.replicate ops.size false).getD i true) s.m.H.get es=s.m.H.get:=funext fun b=>HD_no hno
  refine ⟨hρ,⟨FL,h1,fun t v hv=>?_⟩,?_,fun i e hi _=>?_⟩
  ·rw [FD_no hno] at hv
   exact h2 t v (Fm.get_fresh (q1 t v hv))
  ·rw [eH]
   exact ⟨Ext.refl E,drew_wr hw,Nat.le_refl _,fun b g hb => .inl hb,fun i k hi => .inl hi,fun _ _ _=>rfl,fun _ _ _=>rfl,fun b hb => .inl hb⟩
  ·have:=at_c ht hi
   exact hf.sub (by omega) (by omega)
theorem sc_step (hm:P.follows .mixedOrders=true) (hC:SC P O ρ f) (hL:SL P O ρ (f+1)) (hO:SO P O ρ f) (hA:SA P O ρ f):SC P O ρ (f+1):=by
 intro n c s ls h hp
 have self:∀ {e:Ex} {W:WP},(∀ Q a w,Qx e Q a w→W Q a w)→Good ρ s.m [(e,s)] (RC ρ n s.F s.m W):=fun hW=>Good.one hp (Sta.refl _) (fun w0 E a w Q hρ hfa hw hf np hto=>hW Q a w (hto E a w (Nx.refl hw _ _) hfa))
 cases c with
 | skip=>cases h; exact self (fun Q a w h=>wp_skip h)
 | ret=>cases h; exact self (fun Q a w h=>wp_ret h)
 | exit i=>cases h; exact self (fun Q a w h=>wp_exit h)
 | label l=>cases h; exact self (fun Q a w h=>wp_label h)
 | seq x y =>
  rw [go_seq] at h
  split at h <;> first | (cases h; done) | skip
  rename_i l h1
  refine (hC _ _ _ _ h1 hp).bind h (fun s r hr=>by cases hr; rfl) (fun e s1 rs hk hp1 S1 hrc=>?_)
  cases e with
  | nx=>exact ((hC _ _ _ _ hk hp1).mono (fun e2 s2 S2 hrc2=>hrc.seq S1 hrc2 S2 (fun Q a w h=>wp_seq h))).from S1
  | pan=>cases hk; exact Good.pan hp1
  | ret=>cases hk; exact Good.one hp1 S1 (hrc.early (K:=fun Q a w=>y.wp P Q a w) (by simp) (fun Q a w h=>wp_seq h))
  | ex i=>cases hk; exact Good.one hp1 S1 (hrc.early (K:=fun Q a w=>y.wp P Q a w) (by simp) (fun Q a w h=>wp_seq h))
  | val v=>cases hk; exact Good.one hp1 S1 (hrc.early (K:=fun Q a w=>y.wp P Q a w) (by simp) (fun Q a w h=>wp_seq h))
 | cond x y z =>
  rw [go_cond] at h
  split at h <;> first | (cases h; done) | skip
  rename_i e hx
  obtain ⟨pc',rs',h1,h2,h3⟩:=dec_ok h hp
  refine Good.sub ?_ h3
  have ev:∀ {E:Env} {a:Act} {FL:Eng.FL},E.ρ=ρ→Fr ⟨n,[]⟩ a FL→FRel E s.F FL→a.eval x = .bool (e.den ρ).b:=fun hρ hfr hF=>by
   obtain ⟨u,e1,r⟩:=eo_ok hF hx
   rw [hfr.ev e1,show u = .bool (e.den _).b from r,hρ]
  cases hb:(e.den ρ).b with
  | true =>
   rw [hb] at h1
   refine ((hC _ _ _ _ h1 h2).mono (fun e2 s2 S2 hrc=>?_)).from (Sta.wpc _ _)
   intro w0 E a w Q hρ hfa hw hf np hto
   have hev:=ev hρ hfa.choose_spec.1 hfa.choose_spec.2
   rw [hb] at hev
   exact wp_cond_split hev (fun _=>hrc w0 E a w Q hρ hfa hw hf np hto) (fun e=>by cases e)
  | false =>
   rw [hb] at h1
   refine ((hC _ _ _ _ h1 h2).mono (fun e2 s2 S2 hrc=>?_)).from (Sta.wpc _ _)
   intro w0 E a w Q hρ hfa hw hf np hto
   have hev:=ev hρ hfa.choose_spec.1 hfa.choose_spec.2
   rw [hb] at hev
   exact wp_cond_split hev (fun e=>by cases e) (fun _=>hrc w0 E a w Q hρ hfa hw hf np hto)
 | block i x =>
  rw [go_block] at h
  split at h <;> first | (cases h; done) | skip
  rename_i l h1
  refine (hC _ _ _ _ h1 hp).bind h (fun s r hr=>by cases hr; rfl) (fun e s1 rs hk hp1 S1 hrc=>?_)
  have fin:∀ e',(∀ Q a w,Qx e' Q a w→Qx e (Exit.inBlock i Q) a w)→RC ρ n s.F s.m ((Code.block i x).wp P) e' s1:=by
   intro e' he' w0 E a w Q hρ hfa hw hf np hto
   exact wp_block (hrc w0 E a w _ hρ hfa hw hf (np_block np) (fun E' a' w' hn hfa'=>he' Q a' w' (hto E' a' w' hn hfa')))
  cases e with
  | ex j =>
   dsimp only at hk
   split at hk
   ·rename_i hj
    have hj:=Nat.eq_of_beq_eq_true hj
    cases hk
    exact Good.one hp1 S1 (fin .nx (fun Q a w h=>by show Exit.inBlock i Q (.exit j) a w; simp only [Exit.inBlock,hj,if_true]; exact h))
   ·rename_i hj
    have hj:=beq_f.1 hj
    cases hk
    exact Good.one hp1 S1 (fin (.ex j) (fun Q a w h=>by show Exit.inBlock i Q (.exit j) a w; simp only [Exit.inBlock,hj,if_false]; exact h))
  | nx=>cases hk; exact Good.one hp1 S1 (fin .nx (fun Q a w h=>h))
  | ret=>cases hk; exact Good.one hp1 S1 (fin .ret (fun Q a w h=>h))
  | val v=>cases hk; exact Good.one hp1 S1 (fin (.val v) (fun Q a w h=>h))
  | pan=>cases hk; exact Good.pan hp1
 | scope x =>
  have h:go P O f (.code n x s)=some ls:=h
  refine (hC _ _ _ _ h hp).mono (fun e s1 S1 hrc=>?_)
  intro w0 E a w Q hρ hfa hw hf np hto
  refine wp_scope_straight ?_
  refine hrc w0 E a w _ hρ hfa hw hf ⟨fun c a w hq=>np.1 c a w hq,fun a w hq=>np.2 a w hq⟩ (fun E' a' w' hn hfa'=>?_)
  have:=hto E' a' w' hn hfa'
  cases e <;> exact this
 | loop x =>
  refine (hL _ _ _ _ h hp).mono (fun e s1 S1 hrc=>?_)
  intro w0 E a w Q hρ hfa hw hf np hto
  exact wp_loop_rounds _ (hrc w0 E a w Q hρ hfa hw hf np hto)
 | region i ops any =>
  cases any with
  | false =>
   rw [go_rord] at h
   refine (hO n ops 0 ⟨s.F.fresh,s.m⟩ ls (by rw [List.drop_zero]; exact h) hp).mono (fun e s1 S1 ⟨he,hrc⟩=>?_)
   intro w0 E a w Q hρ hfa hw hf np hto
   refine wp_region ?_
   have:=hrc w0 E a w Q hρ (by obtain ⟨FL,h1,h2⟩:=hfa; exact ⟨FL,h1,fun t v hv=>h2 t v (Fm.get_fresh hv)⟩) hw hf np hto
   rw [Nat.sub_zero,← List.range_eq_range'] at this
   exact this
  | true =>
   rw [go_rany] at h
   split at h <;> first | (cases h; done) | skip
   rename_i hns
   exact region_any hm hA hns h hp
 | _=>exact absurd (show (none:Option Lv)=_ from h) (by simp)
theorem snd_all (hm : P.follows .mixedOrders = true) (hng : ∀ (g : Nat) (fn : Func), P.funcs[g]? = some fn → (fn.name == "runtime.NumGoroutine") = false) (hO : OraOK P O ρ) : ∀ f, SC P O ρ f ∧ SL P O ρ f ∧ SO P O ρ f ∧ SA P O ρ f ∧ SF P O ρ f
  | 0=>⟨fun _ _ _ _ h=>(by cases h),fun _ _ _ _ h=>(by cases h),fun _ _ _ _ _ h=>(by cases h),fun _ _ _ _ _ _ _ h=>(by cases h),fun _ _ _ _ h=>(by cases h)⟩
  | f+1=>by
    obtain ⟨h1,h2,h3,h4,h5⟩:=snd_all hm hng hO f
    have hl:=sl_step h1 h2
    exact ⟨sc_step hm h1 hl h3 h4,hl,so_step hng h3 h5,sa_step hng h4 h5,sf_step hO h1⟩
theorem hng_of (hng : (P.funcs.toList.all fun fn => !(fn.name == "runtime.NumGoroutine")) = true) : ∀ (g : Nat) (fn : Func), P.funcs[g]? = some fn → (fn.name == "runtime.NumGoroutine") = false := fun g fn hg => by
  have:=List.all_eq_true.1 hng fn (by rw [Array.mem_toList_iff]; exact Array.mem_of_getElem? hg)
  simpa using this
noncomputable def isT:Option Lv→Bool
 | some [(.val (.bool (.bl true)),_)]=>true
 | _=>false
theorem run_true (hm : P.follows .mixedOrders = true) (hng : (P.funcs.toList.all fun fn => !(fn.name == "runtime.NumGoroutine")) = true) (hO : OraOK P O rho0) (f g : Nat) (h : isT (go P O f (.call g [] ⟨.e, 0, [], []⟩)) = true) (w : World) : Calls P g #[] w fun e w' => e = .returned (.bool true) ∧ Below w.heap.size w w' := by
  unfold isT at h
  split at h <;> first | (cases h; done) | skip
  rename_i s' hgo
  obtain ⟨_,_,_,_,hF⟩:=snd_all hm (hng_of hng) hO f
  obtain ⟨l,hl,_,hr⟩:=hF g [] _ _ hgo (fun p hp=>by cases hp)
  rw [List.mem_singleton] at hl
  subst hl
  rcases hr with hr | ⟨_,v,hv,_,k⟩
  · cases hr
  · injection hv with hv
    subst hv
    refine k w ⟨rho0,fun _=>none,fun _=>none⟩ [] w _ rfl rfl ⟨Agree.refl _ _,fun b o hb=>?_,fun b g hb=>(by cases hb),fun b b' g _ _ hb=>(by cases hb)⟩ (fun b _ _=>⟨rfl,rfl⟩) (fun E' u w' hn hu=>?_)
    · have hb:(PT.e:PT Ob).get b=some o:=hb
      rw [PT.get_e] at hb
      cases hb
    · exact ⟨by rw [show u = .bool true from hu],hn.wr.agree.below⟩
end
end Go.Run
namespace Go.Run
open Go.Eng Go.RowKit
set_option linter.unusedVariables false
set_option linter.unusedSimpArgs false
section
variable {P:Program} {O:Ora} {ρ:Rho}
theorem nx_below {w0:World} {E:Env} {H:Nat→Option Ob} {w w':World} (hw:Wr w0 E H w) (h:Below w.heap.size w w') (c:Nat) (wl:List Nat):Nx w0 E H c w E H c wl w':=by
 have ha:Agree [] w w':=Agree.of_below h
 refine ⟨Ext.refl E,⟨agree0 hw (by simp) ha,fun b o hb=>?_,fun b g hb=>?_,hw.inj⟩,ha.size,fun _ _ h => .inl h,fun _ _ h => .inl h,fun g hg _=>ha.frame g hg (by simp),fun _ _ _=>rfl,fun _ h => .inl h⟩
 ·obtain ⟨g,obj,h1,h2,h3⟩:=hw.lr b o hb
  exact ⟨g,obj,h1,(ha.frame g (Array.getElem?_eq_some_iff.1 h2).1 (by simp)).trans h2,h3⟩
 ·have:=hw.own b g hb
  have:=ha.size
  exact ⟨by omega,by omega⟩
end
end Go.Run
namespace Go.Eng
open Go.Proofs Go.RowKit Go.Proofs.YtgbcnokeaaabfaaGreatW.PrintWords
set_option linter.unusedVariables false
set_option linter.unusedSimpArgs false
set_option maxRecDepth 100000 in
set_option maxHeartbeats 4000000 in
theorem pack_Cells_no (k:Nat) (T S C H K V L:Int) (A:Option Addr) (c:Nat) (l:List Int) (B:Option Addr) (d:Nat) (ll:List (List S53)) (hr:shape_Rest.f k T S C H K V L l ll=some false) (w0:World) (Hs:List Nat):Con Tryz.prog 8 #[.agg (cfA T S C H K V L),.slice A l.length c,.slice B ll.length d] w0 Hs [.f (KU A c l),.f (KC (Kd.slice 53 k53) B d ll)] (fun X=>X (.tuple #[.slice none 0 0,.bool false]) []):=by
 refine con_enter (c:=bodyOf Tryz.f8) Tryz.func8 rfl (m:=119) rfl rfl rfl ?_
 intro X hX _
 refine c_seq rfl ?_
 refine r_ordb (l:=[0,1,2]) rfl (by kernel_rfl) ?_
 refine s_e rfl rfl (e_box rfl rfl rfl rfl) ?_
 intro b1_
 refine sA rfl ?_
 refine sA rfl ?_
 refine sE rfl ?_
 refine c_seq rfl ?_
 refine r_ordb (l:=[0,1,2,3,4]) rfl (by kernel_rfl) ?_
 refine sV rfl (vLA (lfA T S C H K V L) 0 Tryz.underlying23 SZ23 rfl) ?_
 refine sM rfl ?_
 refine sM rfl ?_
 refine s_e rfl rfl (eC [1,2] #[.agg (cfA T S C H K V L),.slice A l.length c,.slice B ll.length d] Tryz.func26 (by decide) rfl (fun w ht=>shape_Rest_con _ T S C H K V L A c l B d ll false hr w _)) ?_
 refine sV rfl (v_not rfl rfl) ?_
 refine sQ ?_
 refine c_cond1 rfl rfl ?_
 refine c_seq rfl ?_
 refine r_ordb (l:=[0,1]) rfl (by kernel_rfl) ?_
 refine sA rfl ?_
 refine sA rfl ?_
 refine sQ ?_
 refine c_ret rfl ?_
 refine q_then_ret ?_
 exact q_ret (vs:=[.slice none 0 0,.bool false]) rfl (.tmp rfl (.tmp rfl .nil)) [] rfl (by decide) hX
end Go.Eng
namespace Go.Run
open Go.Eng Go.RowKit Go.Proofs Go.Proofs.YtgbcnokeaaabfaaGreatW.PrintWords
set_option linter.unusedVariables false
set_option linter.unusedSimpArgs false
noncomputable def rowC (H:PT Ob) (m:Nat):V→Option (List V)
 | .nsl=>some []
 | .sl b off len cap=>match Nat.beq off 0,H.get b with
  | true,some o=>match roomOk o cap m with
   | true=>prt o.cells 0 (Nat.mul len m)
   | false=>none
  | _,_=>none
 | _=>none
theorem rowC_ok {w0 w:World} {E:Env} {H:PT Ob} (hw:Wr w0 E H.get w) {m:Nat} {v:V} {ns:List V} {u:Value} (h:rowC H m v=some ns) (hv:VR E v u) :
  ∃ A len c vs,u = .slice A len c∧VRs E ns vs∧vs.length=len * m∧∀ {α:Type} {d:Kd α} {xs:List α},d.sz=m→xs.length=len→Reps (d.K w) d.sz xs vs→KC d A c xs w:=by
 cases v with
 | nsl =>
  cases h
  refine ⟨none,0,0,[],hv,rfl,by simp,fun hd hx hr=>?_⟩
  rw [List.eq_nil_of_length_eq_zero hx]
  exact KC_nil _ w
 | sl b off len cap =>
  have h2:(match Nat.beq off 0,H.get b with | true,some o=>(match roomOk o cap m with | true=>prt o.cells 0 (Nat.mul len m) | false=>none) | _,_=>none)=some ns:=h
  clear h
  split at h2 <;> first | (cases h2; done) | skip
  rename_i o hoff hb
  split at h2 <;> first | (cases h2; done) | skip
  rename_i hr
  obtain rfl:=Nat.eq_of_beq_eq_true hoff
  obtain ⟨g,c,hg,hc,hlc,rfl⟩:=hv
  obtain ⟨g',obj,hg',hh,hor⟩:=hw.lr b o hb
  rw [hg] at hg'
  cases hg'
  obtain ⟨us,cur,hus,hobj,htk,hsz,hmx⟩:=room_ok hor hr hc
  obtain ⟨p1,p2,p3⟩:=prt_ok h2 hus
  rw [Nat.zero_add] at p1
  have hlen:us.length=o.cells.length:=by rw [← hus.len]
  subst hobj
  refine ⟨_,len,c,us.take (len * m),rfl,?_,?_,fun hd hx hrp=>KC_ofReps0 hh hrp ?_ (by rw [hx]; exact hlc) hmx⟩
  ·simpa using p3
  ·rw [List.length_take,hlen]
   exact Nat.min_eq_left p1
  ·rw [hx,hd,← htk,List.take_take,Nat.min_eq_left (by rw [hlen]; exact p1)]
 | _=>cases h
noncomputable def lits:List V→Option (List Int)
 | []=>some []
 | .int .u64 (.lit n) :: r=>match lits r with | some l=>some (n :: l) | none=>none
 | _=>none
theorem lits_ok {E:Env}:∀ {ns:List V} {l:List Int} {vs:List Value},lits ns=some l→VRs E ns vs→vs=l.flatMap (fun x=>[.int .u64 x])∧l.length=ns.length
 | [],l,vs,h,hv=>by cases h; exact ⟨hv,rfl⟩
 | v :: r,l,vs,h,hv=>by
  unfold lits at h
  split at h <;> first | (cases h; done) | skip
  ·rename_i q; cases q
  ·rename_i n r' q
   cases q
   split at h <;> first | (cases h; done) | skip
   rename_i l' hl
   cases h
   obtain ⟨x,xs,h1,h2,rfl⟩:=hv
   obtain ⟨e,e2⟩:=lits_ok hl h2
   refine ⟨?_,by simp [e2]⟩
   rw [List.flatMap_cons,← e]
   exact congrArg (· :: xs) h1
noncomputable def rdU (H:PT Ob) (v:V):Option (List Int):=match rowC H 1 v with | some ns=>lits ns | none=>none
theorem rdU_ok {w0 w:World} {E:Env} {H:PT Ob} (hw:Wr w0 E H.get w) {v:V} {l:List Int} {u:Value} (h:rdU H v=some l) (hv:VR E v u):∃ A c,u = .slice A l.length c∧KC (Kd.int .u64) A c l w:=by
 unfold rdU at h
 split at h <;> first | (cases h; done) | skip
 rename_i ns hns
 obtain ⟨A,len,c,vs,hu,h1,h2,h3⟩:=rowC_ok hw hns hv
 obtain ⟨e1,e2⟩:=lits_ok h h1
 have hl:l.length=len:=by rw [e2,← h1.len,h2,Nat.mul_one]
 exact ⟨A,c,by rw [hl]; exact hu,h3 rfl hl ((reps_flat (flat_int .u64)).2 e1)⟩
noncomputable def ents:List V→Option (List S53)
 | []=>some []
 | .int .u64 (.lit a) :: .int .u64 (.lit b) :: .int .u64 (.lit c) :: r=>match ents r with | some l=>some (⟨a,b,c⟩ :: l) | none=>none
 | _=>none
theorem ents_ok {E:Env}:∀ {ns:List V} {l:List S53} {vs:List Value},ents ns=some l→VRs E ns vs→vs=l.flatMap enc53∧l.length * 3=ns.length
 | [],l,vs,h,hv=>by cases h; exact ⟨hv,rfl⟩
 | [_],l,vs,h,hv=>by unfold ents at h; split at h <;> first | (cases h; done) | (rename_i q; cases q)
 | [_,_],l,vs,h,hv=>by unfold ents at h; split at h <;> first | (cases h; done) | (rename_i q; cases q)
 | v1 :: v2 :: v3 :: r,l,vs,h,hv=>by
  unfold ents at h
  split at h <;> first | (cases h; done) | skip
  ·rename_i q; cases q
  ·rename_i a b c r' q
   cases q
   split at h <;> first | (cases h; done) | skip
   rename_i l' hl
   cases h
   obtain ⟨x,xs,h1,h2,rfl⟩:=hv
   obtain ⟨x2,xs2,h3,h4,rfl⟩:=h2
   obtain ⟨x3,xs3,h5,h6,rfl⟩:=h4
   obtain ⟨e,e2⟩:=ents_ok hl h6
   refine ⟨?_,by simp only [List.length_cons]; omega⟩
   rw [List.flatMap_cons,← e]
   rw [show x = .int .u64 a from h1,show x2 = .int .u64 b from h3,show x3 = .int .u64 c from h5]
   rfl
noncomputable def rdE (H:PT Ob) (v:V):Option (List S53):=match rowC H 3 v with | some ns=>ents ns | none=>none
theorem rdE_ok {w0 w:World} {E:Env} {H:PT Ob} (hw:Wr w0 E H.get w) {v:V} {l:List S53} {u:Value} (h:rdE H v=some l) (hv:VR E v u):∃ A c,u = .slice A l.length c∧KC k53 A c l w:=by
 unfold rdE at h
 split at h <;> first | (cases h; done) | skip
 rename_i ns hns
 obtain ⟨A,len,c,vs,hu,h1,h2,h3⟩:=rowC_ok hw hns hv
 obtain ⟨e1,e2⟩:=ents_ok h h1
 have hl:l.length=len:=by have:=h1.len; omega
 exact ⟨A,c,by rw [hl]; exact hu,h3 rfl hl ((reps_flat flat53).2 e1)⟩
noncomputable def rowsE (H:PT Ob):List V→Option (List (List S53))
 | []=>some []
 | v :: r=>match rdE H v,rowsE H r with | some l,some ll=>some (l :: ll) | _,_=>none
theorem rowsE_ok {w0 w:World} {E:Env} {H:PT Ob} (hw:Wr w0 E H.get w):∀ {ns:List V} {ll:List (List S53)} {vs:List Value},rowsE H ns=some ll→VRs E ns vs→Reps ((Kd.slice 53 k53).K w) 1 ll vs∧ll.length=ns.length
 | [],ll,vs,h,hv=>by cases h; rw [show vs=[] from hv]; exact ⟨Reps.none _ _,rfl⟩
 | v :: r,ll,vs,h,hv=>by
  unfold rowsE at h
  split at h <;> first | (cases h; done) | skip
  rename_i l ll' hl hll
  cases h
  obtain ⟨x,xs,h1,h2,rfl⟩:=hv
  obtain ⟨A,c,rfl,hk⟩:=rdE_ok hw hl h1
  obtain ⟨e1,e2⟩:=rowsE_ok hw hll h2
  exact ⟨reps1_cons (kslice_mk hk) e1,by simp [e2]⟩
noncomputable def rdEE (H:PT Ob) (v:V):Option (List (List S53)):=match rowC H 1 v with | some ns=>rowsE H ns | none=>none
theorem rdEE_ok {w0 w:World} {E:Env} {H:PT Ob} (hw:Wr w0 E H.get w) {v:V} {ll:List (List S53)} {u:Value} (h:rdEE H v=some ll) (hv:VR E v u):∃ A c,u = .slice A ll.length c∧KC (Kd.slice 53 k53) A c ll w:=by
 unfold rdEE at h
 split at h <;> first | (cases h; done) | skip
 rename_i ns hns
 obtain ⟨A,len,c,vs,hu,h1,h2,h3⟩:=rowC_ok hw hns hv
 obtain ⟨e1,e2⟩:=rowsE_ok hw h h1
 have hl:ll.length=len:=by have:=h1.len; omega
 exact ⟨A,c,by rw [hl]; exact hu,h3 rfl hl e1⟩
noncomputable def litV:List Int→List V
 | []=>[]
 | n :: r => .int .u64 (.lit n) :: litV r
theorem litV_ok (E:Env):∀ l:List Int,VRs E (litV l) (l.map (Value.int .u64))
 | []=>rfl
 | n :: r=>⟨_,_,rfl,litV_ok E r,rfl⟩
noncomputable def told (m:Mm) (l:List Int):Mm:=m.new ⟨litV l,41,some (.u m.c 0,1)⟩
theorem told_ok {w0 w w':World} {E:Env} {m:Mm} {l:List Int} {ro:Ro} (hw:Wr w0 E m.H.get w) (hf:Fresh E m.c (told m l).c) (hl:l≠[]) (ho:ORow 1 (fun x=>[Value.int .u64 x]) ro l) (ht:Tri w ⟨[],[]⟩ w' [OE 41 ro]) :
  ∃ E',Nx w0 E m.H.get m.c w E' (told m l).H.get (told m l).c (told m l).wl w'∧VR E' (.sl m.c 0 l.length (.u m.c 0)) (.slice (OA ro) l.length (OC ro)):=by
 rcases ro with _ | ⟨g,cap,cur⟩
 ·exact absurd ho hl
 obtain ⟨o1,o2,o3,o4⟩:=ho
 obtain ⟨H,c,wl,pc⟩:=m
 have hh:w'.heap[g]?=some (.cells cur 41 (0,0)):=ht.at_ g _ (List.mem_singleton_self _)
 have hg:w.heap.size≤g:=(ht.own g (by simp [ids,OE,Ent.id?])).resolve_left (by simp)
 obtain ⟨f1,f2⟩:=hf c (Nat.le_refl _) (Nat.lt_succ_self _)
 refine ⟨E.new c g (some cap),nx_new hw f1 f2 ht.toAgree hg hh ?_ wl,g,cap,new_ν E c g _,⟨cap,new_κ E c g _,rfl⟩,o1,rfl⟩
 refine ⟨l.map (Value.int .u64),cur,cap,litV_ok _ l,⟨cap,new_κ E c g _,rfl⟩,rfl,?_,o3,o2⟩
 rw [List.length_map,← Nat.mul_one l.length,o4]
 exact flat_map_int
theorem agg7 {E:Env} {T S C H K Q L:Int} {u:Value} (h:VR E (.agg [.int .i64 (.lit T),.int .i64 (.lit S),.int .i64 (.lit C),.int .i64 (.lit H),.int .i64 (.lit K),.int .i64 (.lit Q),.int .i64 (.lit L)]) u):u = .agg #[.int .i64 T,.int .i64 S,.int .i64 C,.int .i64 H,.int .i64 K,.int .i64 Q,.int .i64 L]:=by
 obtain ⟨us,hus,rfl⟩:=h
 obtain ⟨x1,r1,e1,hus,rfl⟩:=hus
 obtain ⟨x2,r2,e2,hus,rfl⟩:=hus
 obtain ⟨x3,r3,e3,hus,rfl⟩:=hus
 obtain ⟨x4,r4,e4,hus,rfl⟩:=hus
 obtain ⟨x5,r5,e5,hus,rfl⟩:=hus
 obtain ⟨x6,r6,e6,hus,rfl⟩:=hus
 obtain ⟨x7,r7,e7,hus,rfl⟩:=hus
 rw [show r7=[] from hus,show x1 = .int .i64 T from e1,show x2 = .int .i64 S from e2,show x3 = .int .i64 C from e3,show x4 = .int .i64 H from e4,show x5 = .int .i64 K from e5,show x6 = .int .i64 Q from e6,show x7 = .int .i64 L from e7]
noncomputable def oraP (g:Nat) (xs:List V) (m:Mm):Option Lv:=match Nat.beq g 22 with
 | true=>match xs with
  | [.agg [.int .i64 (.lit T),.int .i64 (.lit S),.int .i64 (.lit C),.int .i64 (.lit H),.int .i64 (.lit K),.int .i64 (.lit Q),.int .i64 (.lit L)],s,.int .i64 (.lit lev)]=>match rdU m.H s with
   | some l=>match shape_Level.f 3000 T S C H K Q L l lev with
    | some (x :: r)=>some [(.val (.sl m.c 0 (List.length (x :: r)) (.u m.c 0)),⟨.nil,told m (x :: r)⟩)]
    | _=>none
   | none=>none
  | _=>none
 | false=>match Nat.beq g 8 with
  | true=>match xs with
   | [.agg [.int .i64 (.lit T),.int .i64 (.lit S),.int .i64 (.lit C),.int .i64 (.lit H),.int .i64 (.lit K),.int .i64 (.lit Q),.int .i64 (.lit L)],s,ls]=>match rdU m.H s,rdEE m.H ls with
    | some l,some ll=>match shape_Rest.f 3000 T S C H K Q L l ll with
     | some false=>some [(.val (.tup [.nsl,.bool (.bl false)]),⟨.nil,m⟩)]
     | some true=>match pack_Cells.f 3000 T S C H K Q L l ll with
      | some (x :: r,true)=>some [(.val (.tup [.sl m.c 0 (List.length (x :: r)) (.u m.c 0),.bool (.bl true)]),⟨.nil,told m (x :: r)⟩)]
      | _=>none
     | none=>none
    | _,_=>none
   | _=>none
  | false=>none
theorem has22:∃ fn,Tryz.prog.funcs[22]?=some fn∧fn.body.isNone=false:=⟨_,Tryz.func22,rfl⟩
theorem has8:∃ fn,Tryz.prog.funcs[8]?=some fn∧fn.body.isNone=false:=⟨_,Tryz.func8,rfl⟩
theorem oraP_ok (ρ:Rho) (nv:Nat→Nat):OraOK Tryz.prog ⟨oraP,nv⟩ ρ:=by
 intro g xs m ls h0 hp
 have h:oraP g xs m=some ls:=h0
 clear h0
 unfold oraP at h
 split at h
 ·rename_i hg
  obtain rfl:=Nat.eq_of_beq_eq_true hg
  split at h <;> first | (cases h; done) | skip
  rename_i T S C H K Q L s lev
  split at h <;> first | (cases h; done) | skip
  rename_i l hl
  split at h <;> first | (cases h; done) | skip
  rename_i x r hr
  cases h
  refine Good.one hp (Sta.new m _) ⟨_,rfl,has22,fun w0 E us w Kk hρ hx hw hf hK=>?_⟩
  obtain ⟨u1,us1,h1,hx,rfl⟩:=hx
  obtain ⟨u2,us2,h2,hx,rfl⟩:=hx
  obtain ⟨u3,us3,h3,hx,rfl⟩:=hx
  obtain rfl:=agg7 h1
  obtain ⟨A,c,rfl,hk⟩:=rdU_ok hw hl h2
  obtain rfl:us3=[]:=hx
  obtain rfl:u3 = .int .i64 lev:=h3
  refine Calls.mono (calls_of_con (R:=fun v L'=>∃ ro,ORow 1 (fun x=>[Value.int .u64 x]) ro (x :: r)∧v = .slice (OA ro) (x :: r).length (OC ro)∧L'=[OE 41 ro]) (shape_Level_own 3000 T S C H K Q L A c l lev (x :: r) hr w []) ((Tri.nil w).know (C_stab hk.1 hk.2)) (fun ro ho=>⟨ro,ho,rfl,rfl⟩)) ?_
  rintro e w' ⟨v,L',rfl,⟨ro,ho,rfl,rfl⟩,ht⟩
  obtain ⟨E',hn,hv⟩:=told_ok hw hf (by simp) ho ht
  exact hK E' _ w' hn hv
 ·split at h <;> first | (cases h; done) | skip
  rename_i hg
  obtain rfl:=Nat.eq_of_beq_eq_true hg
  split at h <;> first | (cases h; done) | skip
  rename_i T S C H K Q L s ls'
  split at h <;> first | (cases h; done) | skip
  rename_i l ll hl hll
  split at h <;> first | (cases h; done) | skip
  ·rename_i hR
   cases h
   refine Good.one hp (Sta.refl m) ⟨_,rfl,has8,fun w0 E us w Kk hρ hx hw hf hK=>?_⟩
   obtain ⟨u1,us1,h1,hx,rfl⟩:=hx
   obtain ⟨u2,us2,h2,hx,rfl⟩:=hx
   obtain ⟨u3,us3,h3,hx,rfl⟩:=hx
   obtain rfl:=agg7 h1
   obtain ⟨A,c,rfl,hk⟩:=rdU_ok hw hl h2
   obtain ⟨B,d,rfl,hk2⟩:=rdEE_ok hw hll h3
   obtain rfl:us3=[]:=hx
   refine Calls.mono (calls_of_con (R:=fun v L'=>v = .tuple #[.slice none 0 0,.bool false]∧L'=[]) (pack_Cells_no 3000 T S C H K Q L A c l B d ll hR w []) (((Tri.nil w).know (C_stab hk2.1 hk2.2)).know (C_stab hk.1 hk.2)) ⟨rfl,rfl⟩) ?_
   rintro e w' ⟨v,L',rfl,⟨rfl,rfl⟩,ht⟩
   refine hK E _ w' ?_ ⟨_,⟨_,_,rfl,⟨_,_,rfl,rfl,rfl⟩,rfl⟩,rfl⟩
   exact nx_below hw ht.below _ _
  ·rename_i hR
   split at h <;> first | (cases h; done) | skip
   rename_i x r hr
   cases h
   refine Good.one hp (Sta.new m _) ⟨_,rfl,has8,fun w0 E us w Kk hρ hx hw hf hK=>?_⟩
   obtain ⟨u1,us1,h1,hx,rfl⟩:=hx
   obtain ⟨u2,us2,h2,hx,rfl⟩:=hx
   obtain ⟨u3,us3,h3,hx,rfl⟩:=hx
   obtain rfl:=agg7 h1
   obtain ⟨A,c,rfl,hk⟩:=rdU_ok hw hl h2
   obtain ⟨B,d,rfl,hk2⟩:=rdEE_ok hw hll h3
   obtain rfl:us3=[]:=hx
   refine Calls.mono (calls_of_con (R:=fun v L'=>∃ ro,ORow 1 (fun x=>[Value.int .u64 x]) ro (x :: r)∧v = .tuple #[.slice (OA ro) (x :: r).length (OC ro),.bool true]∧L'=[OE 41 ro]) (pack_Cells_own 3000 T S C H K Q L A c l B d ll (x :: r) true hr w []) (((Tri.nil w).know (C_stab hk2.1 hk2.2)).know (C_stab hk.1 hk.2)) (fun ro ho=>⟨ro,ho,rfl,rfl⟩)) ?_
   rintro e w' ⟨v,L',rfl,⟨ro,ho,rfl,rfl⟩,ht⟩
   obtain ⟨E',hn,hv⟩:=told_ok hw hf (by simp) ho ht
   exact hK E' _ w' hn ⟨_,⟨_,_,hv,⟨_,_,rfl,rfl,rfl⟩,rfl⟩,rfl⟩
end Go.Run
namespace Go.Run
def nv:PT Nat:=(.n (.n (.n (.n (.n (.n (.n (.n .e (some 31) .e) (some 63) .e) (some 7) (.n .e (some 7) .e)) (some 127) (.n (.n (.n .e (some 1) .e) (some 31) .e) (some 7) (.n .e (some 7) .e))) (some 511) (.n (.n (.n (.n .e (some 1) .e) (some 3940651552999423) .e) (some 8191) (.n .e (some 7) .e)) (some 30786375913471) (.n (.n (.n .e (some 1) .e) (some 7) .e) (some 15) (.n .e (some 31) .e)))) (some 8191) (.n (.n (.n (.n (.n .e (some 1) .e) (some 7) .e) (some 127) (.n .e (some 7) .e)) (some 7) (.n (.n (.n .e (some 1) .e) (some 402657279) .e) (some 31) (.n .e (some 7) .e))) (some 524287) (.n (.n (.n (.n .e (some 1) .e) (some 31) .e) (some 127) (.n .e (some 7) .e)) (some 7) (.n (.n .e (some 511) .e) (some 7) (.n .e (some 15) .e))))) (some 0) (.n (.n (.n (.n (.n (.n .e (some 1) .e) (some 7) .e) (some 255) (.n .e (some 7) .e)) (some 7) (.n (.n (.n .e (some 3) .e) (some 7) .e) (some 7) (.n .e (some 7) .e))) (some 131071) (.n (.n (.n (.n .e (some 1) .e) (some 63) .e) (some 63) (.n .e (some 31) .e)) (some 786687) (.n (.n (.n .e (some 1) .e) (some 31) .e) (some 7) (.n .e (some 15) .e)))) (some 18173039021862971305221720639537151) (.n (.n (.n (.n (.n .e (some 1) .e) (some 7) .e) (some 255) (.n .e (some 7) .e)) (some 127) (.n (.n (.n .e (some 7) .e) (some 15) .e) (some 7) (.n .e (some 7) .e))) (some 2047) (.n (.n (.n (.n .e (some 1) .e) (some 127) .e) (some 4095) (.n .e (some 255) .e)) (some 31) (.n (.n .e (some 63) .e) (some 31) (.n .e (some 7) .e)))))) (some 0) (.n (.n (.n (.n (.n (.n (.n .e (some 1023) .e) (some 31) .e) (some 31) (.n .e (some 7) .e)) (some 2047) (.n (.n (.n .e (some 1) .e) (some 31) .e) (some 255) (.n .e (some 3147775) .e))) (some 7429453624441914714423820287) (.n (.n (.n (.n .e (some 1) .e) (some 3145855) .e) (some 4095) (.n .e (some 447) .e)) (some 460799) (.n (.n (.n .e (some 1) .e) (some 7) .e) (some 255) (.n .e (some 7) .e)))) (some 16383) (.n (.n (.n (.n (.n .e (some 1) .e) (some 63) .e) (some 127) (.n .e (some 63) .e)) (some 4095) (.n (.n (.n .e (some 1) .e) (some 127) .e) (some 7) (.n .e (some 7) .e))) (some 63) (.n (.n (.n (.n .e (some 1) .e) (some 7) .e) (some 8191) (.n .e (some 7) .e)) (some 234885119) (.n (.n .e (some 16383) .e) (some 31) (.n .e (some 447) .e))))) (some 0) (.n (.n (.n (.n (.n (.n .e (some 1) .e) (some 7) .e) (some 8191) (.n .e (some 63) .e)) (some 31) (.n (.n (.n .e (some 1) .e) (some 31) .e) (some 7) (.n .e (some 127) .e))) (some 63) (.n (.n (.n (.n .e (some 1) .e) (some 12583039) .e) (some 511) (.n .e (some 7) .e)) (some 4332799692912683476420919295) (.n (.n .e (some 7) .e) (some 511) (.n .e (some 127) .e)))) (some 1023) (.n (.n (.n (.n (.n .e (some 1) .e) (some 15) .e) (some 511) (.n .e (some 31) .e)) (some 2147485695) (.n (.n (.n .e (some 1) .e) (some 127) .e) (some 63) (.n .e (some 31) .e))) (some 7) (.n (.n (.n (.n .e (some 1) .e) (some 127) .e) (some 511) (.n .e (some 3) .e)) (some 7) (.n (.n .e (some 7) .e) (some 7) (.n .e (some 1023) .e)))))))
noncomputable def nvOf (g:Nat):Nat:=match nv.get g with | some k=>k | none=>0
end Go.Run
namespace Go.Eng
open Go.Proofs Go.RowKit
set_option maxHeartbeats 4000000 in
theorem a_alive:Run.isT (Run.go Tryz.prog ⟨Run.oraP,Run.nvOf⟩ 1000000 (.call 6 [] ⟨.e,0,[],[]⟩))=true:=by kernel_rfl
theorem zfollows:Tryz.prog.follows .mixedOrders=true:=by kernel_rfl
theorem znames : (Tryz.prog.funcs.toList.all fun fn => !(fn.name == "runtime.NumGoroutine")) = true := by kernel_rfl
theorem alive_con (w0:World) (Hs:List Nat):Con Tryz.prog 6 #[] w0 Hs [] (fun X=>X (.bool true) []):=con_of_calls (fun w=>Run.run_true zfollows znames (Run.oraP_ok _ _) 1000000 6 a_alive w) w0 Hs
end Go.Eng
namespace Go.Eng
open Go.Proofs Go.RowKit Go.Proofs.YtgbcnokeaaabfaaGreatW.PrintWords
set_option linter.unusedVariables false
set_option linter.unusedSimpArgs false
def stepstonelaw22_PackCells.f (k:Nat) (p0:Int) (p1:Int) (p2:Int) (p3:Int) (p4:Int) (p5:Int) (p6:Int) (l1:List Int) (l2_0:List S47) (a2_1:Int):Option Bool:=((if (p2:Int) > 20 then some true else (if ((l1.length:Int):Int) > 400 then some true else (if ((l2_0.length:Int):Int) > 40 then some true else (if (a2_1:Int)<0 then some true else some (decide ((a2_1:Int) > (l2_0.length:Int))))))):Option Bool).bind fun j32_=>(if j32_=true then some true else (if ([]:List Int).length+l1.length<17592186044416 then (stepstonelaw06_News.f k l2_0).bind fun t49_=>(if 0≤(a2_1:Int) then (if (a2_1:Int)≤(t49_.length:Int) then (pack_Cells.f k p0 p1 p2 p3 p4 p5 p6 (([]:List Int) ++ l1) ([(t49_.take (Int.toNat a2_1)),(t49_.drop (Int.toNat a2_1))]:List (List S53))).bind fun (t74_,t75_)=>(sr22_Cells.f k p0 p1 p2 p3 p4 p5 p6 l1 l2_0).bind fun (t88_,t89_)=>((sr03_Same.f k t74_ t88_).bind fun t103_=>(if t103_=true then (if (t75_ == t89_)=true then (sr03_Same.f k (([]:List Int) ++ l1) l1).bind fun t108_=>some t108_ else some false) else some false):Option Bool).bind fun j101_=>some j101_ else none) else none) else none))
def stepstonelaw22_PackKeeps.l0:Nat→Int→Int→Int→Int→Int→Int→Int→List Int→Bool→Int→Option Bool
 | 0,_,_,_,_,_,_,_,_,_,_=>none
 | k+1,p0,p1,p2,p3,p4,p5,p6,t53_,x117_,x118_=>(if (x118_:Int)≤p2 then (sr04_Cell.f p0 p1 p2 p3 p4 p5 p6 x118_ 0).bind fun t156_=>(if 0≤(t156_:Int) then (if (t156_:Int)<(t53_.length:Int) then (sr02_State.f (rd t53_ t156_)).bind fun t160_=>((if (t160_:Int)=1 then some (true,x117_) else some (false,false)):Option (Bool × Bool)).bind fun (j169_,j170_)=>(if j170_=true then some false else (if x117_=true then stepstonelaw22_PackKeeps.l0 k p0 p1 p2 p3 p4 p5 p6 t53_ true (IntKind.wrap .i64 (x118_+1)) else stepstonelaw22_PackKeeps.l0 k p0 p1 p2 p3 p4 p5 p6 t53_ ((t160_:Int) == 0) (IntKind.wrap .i64 (x118_+1)))) else none) else none) else (pack_Cells.f k p0 p1 p2 p3 p4 p5 p6 t53_ ([]:List (List S53))).bind fun (t183_,t184_)=>((if t184_=true then (sr03_Same.f k t183_ t53_).bind fun t194_=>some t194_ else some false):Option Bool).bind fun j191_=>some j191_)
def stepstonelaw22_PackKeeps.f (k:Nat) (p0:Int) (p1:Int) (p2:Int) (p3:Int) (p4:Int) (p5:Int) (p6:Int) (l1:List Int) (l2_0:List S47) (a2_1:Int):Option Bool:=((if (p2:Int) > 20 then some true else (if ((l1.length:Int):Int) > 400 then some true else (if ((l2_0.length:Int):Int) > 40 then some true else (sr21_Rest.f k p0 p1 p2 p3 p4 p5 p6 l1 l2_0).bind fun t223_=>some (!t223_)))):Option Bool).bind fun j30_=>(if j30_=true then some true else (stepstonelaw06_News.f k l2_0).bind fun t48_=>(pack_Cells.f k p0 p1 p2 p3 p4 p5 p6 l1 ([t48_]:List (List S53))).bind fun (t53_,t54_)=>((if t54_=true then (sr21_Rest.f k p0 p1 p2 p3 p4 p5 p6 t53_ ([]:List S47)).bind fun t197_=>(if t197_=true then (sr21_Map.f k p0 p1 p2 p3 p4 p5 p6 t53_).bind fun t200_=>(sr21_Map.f k p0 p1 p2 p3 p4 p5 p6 l1).bind fun t204_=>(sr07_Equal.f k t200_ t204_).bind fun t208_=>some (!t208_) else some true) else some true):Option Bool).bind fun j102_=>(if j102_=true then some false else stepstonelaw22_PackKeeps.l0 k p0 p1 p2 p3 p4 p5 p6 t53_ false 1))
mutual
def stepstonelaw22_PackHandles.l1:Nat→Int→Int→Int→Int→Int→Int→Int→List S47→List Int→List Int→List Int→Int→Int→Bool→Int→Option Bool
 | 0,_,_,_,_,_,_,_,_,_,_,_,_,_,_,_=>none
 | k+1,p0,p1,p2,p3,p4,p5,p6,l2_0,t53_,t74_,t84_,x124_,t171_,x176_,x177_=>(if (x177_:Int)<(t84_.length:Int) then ((if 0≤(x177_:Int) then (if x176_=true then some (true,true,true,true) else some ((rd t84_ x177_:Int) == (rd t74_ x124_),false,false,(rd t84_ x177_:Int) == (rd t74_ x124_))) else none):Option (Bool × Bool × Bool × Bool)).bind fun (j191_,j192_,j193_,j194_)=>stepstonelaw22_PackHandles.l1 k p0 p1 p2 p3 p4 p5 p6 l2_0 t53_ t74_ t84_ x124_ t171_ j191_ (IntKind.wrap .i64 (x177_+1)) else (sr04_Cell.f p0 p1 p2 p3 p4 p5 p6 t171_ 0).bind fun t204_=>(if 0≤(t204_:Int) then (if (t204_:Int)<(t53_.length:Int) then ((if x176_=true then some (false,false) else (sr01_Gen.f (rd t74_ x124_)).bind fun t221_=>(sr02_Taken.f t221_).bind fun t223_=>some (true,(rd t53_ t204_:Int) == t223_)):Option (Bool × Bool)).bind fun (j215_,j216_)=>(if j216_=true then some false else stepstonelaw22_PackHandles.l0 k p0 p1 p2 p3 p4 p5 p6 l2_0 t53_ t74_ t84_ (IntKind.wrap .i64 (x124_+1))) else none) else none))
def stepstonelaw22_PackHandles.l2:Nat→Int→Int→Int→Int→Int→Int→Int→List S47→List Int→List Int→List Int→Int→Option Bool
 | 0,_,_,_,_,_,_,_,_,_,_,_,_=>none
 | k+1,p0,p1,p2,p3,p4,p5,p6,l2_0,t53_,t74_,t84_,x244_=>(if (x244_:Int)<(l2_0.length:Int) then (if 0≤(x244_:Int) then (sr01_Index.f ((rd_T47 l2_0 x244_).f0)).bind fun t290_=>(sr04_Cell.f p0 p1 p2 p3 p4 p5 p6 t290_ 0).bind fun t300_=>(if 0≤(t300_:Int) then (if (t300_:Int)<(t53_.length:Int) then (sr01_Gen.f ((rd_T47 l2_0 x244_).f0)).bind fun t304_=>(sr02_Taken.f t304_).bind fun t306_=>(if (rd t53_ t300_:Int)=t306_ then some false else stepstonelaw22_PackHandles.l2 k p0 p1 p2 p3 p4 p5 p6 l2_0 t53_ t74_ t84_ (IntKind.wrap .i64 (x244_+1))) else none) else none) else none) else some (((t84_.length:Int):Int) == (t74_.length:Int)))
def stepstonelaw22_PackHandles.l0:Nat→Int→Int→Int→Int→Int→Int→Int→List S47→List Int→List Int→List Int→Int→Option Bool
 | 0,_,_,_,_,_,_,_,_,_,_,_,_=>none
 | k+1,p0,p1,p2,p3,p4,p5,p6,l2_0,t53_,t74_,t84_,x124_=>(if (x124_:Int)<(t74_.length:Int) then (if 0≤(x124_:Int) then (sr01_Index.f (rd t74_ x124_)).bind fun t171_=>stepstonelaw22_PackHandles.l1 k p0 p1 p2 p3 p4 p5 p6 l2_0 t53_ t74_ t84_ x124_ t171_ false 0 else none) else stepstonelaw22_PackHandles.l2 k p0 p1 p2 p3 p4 p5 p6 l2_0 t53_ t74_ t84_ 0)
end
def stepstonelaw22_PackHandles.f (k:Nat) (p0:Int) (p1:Int) (p2:Int) (p3:Int) (p4:Int) (p5:Int) (p6:Int) (l1:List Int) (l2_0:List S47) (a2_1:Int):Option Bool:=((if (p2:Int) > 20 then some true else (if ((l1.length:Int):Int) > 400 then some true else (if ((l2_0.length:Int):Int) > 40 then some true else (sr21_Rest.f k p0 p1 p2 p3 p4 p5 p6 l1 l2_0).bind fun t321_=>some (!t321_)))):Option Bool).bind fun j30_=>(if j30_=true then some true else (stepstonelaw06_News.f k l2_0).bind fun t48_=>(pack_Cells.f k p0 p1 p2 p3 p4 p5 p6 l1 ([t48_]:List (List S53))).bind fun (t53_,t54_)=>(if ((t53_.length:Int):Int)=(l1.length:Int) then (sr21_Level.f k p0 p1 p2 p3 p4 p5 p6 l1 0).bind fun (t74_,t75_)=>(sr21_Level.f k p0 p1 p2 p3 p4 p5 p6 t53_ 0).bind fun (t84_,t85_)=>stepstonelaw22_PackHandles.l0 k p0 p1 p2 p3 p4 p5 p6 l2_0 t53_ t74_ t84_ 0 else some false))
set_option maxRecDepth 100000 in
set_option maxHeartbeats 4000000 in
theorem stepstonelaw22_PackHandles_con (k:Nat) (p0:Int) (p1:Int) (p2:Int) (p3:Int) (p4:Int) (p5:Int) (p6:Int) (A1:Option Addr) (c1:Nat) (l1:List Int) (A2_0:Option Addr) (c2_0:Nat) (l2_0:List S47) (a2_1:Int) (r0:Bool) (h:stepstonelaw22_PackHandles.f k p0 p1 p2 p3 p4 p5 p6 l1 l2_0 a2_1=some r0) (w0:World) (Hs:List Nat):Con Tryz.prog 5 #[.agg (cfA p0 p1 p2 p3 p4 p5 p6),.slice A1 l1.length c1,.agg #[.slice A2_0 l2_0.length c2_0,.I a2_1]] w0 Hs [.f (KU A1 c1 l1),.f (KC k47 A2_0 c2_0 l2_0)] (fun X=>X (.bool r0) []):=by
 refine con_enter (c:=bodyOf Tryz.f5) Tryz.func5 rfl (m:=140) rfl rfl rfl ?_
 intro X hX _
 have H:=h
 unfold stepstonelaw22_PackHandles.f at H
 clear h
 refine c_seq rfl ?_
 refine r_ordb (l:=[0,1,2]) rfl (by kernel_rfl) ?_
 refine s_e rfl rfl (e_box rfl rfl rfl rfl) ?_
 intro b3_
 refine s_e rfl rfl (e_box rfl rfl rfl rfl) ?_
 intro b4_
 refine sA rfl ?_
 refine sE rfl ?_
 obtain ⟨j30_,e31_,H⟩:=bind_s H
 refine c_join (β:=Unit) (fun _=>True) (fun _=>[(1,.slice A1 l1.length c1),(3,.P b3_),(5,.P b4_),(6,.bool false),(44,.bool j30_)]) (fun _=>[.b b4_ (.cells #[.slice A2_0 l2_0.length c2_0,.I a2_1] 27 (0,0)),.b b3_ (.cells (cfA p0 p1 p2 p3 p4 p5 p6) 23 (0,0)),.f (KU A1 c1 l1),.f (KC k47 A2_0 c2_0 l2_0)]) rfl (fun _ _=>?_) (fun J_=>?_)
 ·
  rcases Bool.eq_false_or_eq_true j30_ with h32_ | h32_
  ·
   subst h32_
   replace H:=ite_y rfl H
   refine c_cond1 rfl rfl ?_
   refine c_seq rfl ?_
   refine r_ordb (l:=[0,1]) rfl (by kernel_rfl) ?_
   refine s_e rfl rfl (eC [] #[] Tryz.func6 (by decide) rfl (fun w ht=>alive_con w _)) ?_
   refine sA rfl ?_
   refine sQ ?_
   refine c_ret rfl ?_
   refine q_then_ret ?_
   have e_:=Option.some.inj H
   subst e_
   exact q_ret (vs:=[.bool true]) rfl (.tmp rfl .nil) [] rfl (by decide) (hX)
  ·
   subst h32_
   replace H:=ite_n (by decide) H
   refine c_cond0 rfl rfl ?_
   refine kQ rfl ?_
   refine c_seq rfl ?_
   obtain ⟨t48_,e49_,H⟩:=bind_s H
   obtain ⟨⟨t53_,t54_⟩,e55_,H⟩:=bind_s H
   refine r_any [.b b4_ (.cells #[.slice A2_0 l2_0.length c2_0,.I a2_1] 27 (0,0)),.b b3_ (.cells (cfA p0 p1 p2 p3 p4 p5 p6) 23 (0,0)),.f (KU A1 c1 l1),.f (KC k47 A2_0 c2_0 l2_0)] (by kernel_rfl) rfl (by kernel_rfl) (mem_pick (idx:=[0,1,2,3]) rfl) ?_
   refine aV 0 rfl (by kernel_rfl) (vLA (lfA p0 p1 p2 p3 p4 p5 p6) 1 Tryz.underlying23 SZ23 rfl) ?_
   refine aV 1 rfl (by kernel_rfl) (vM rfl) ?_
   refine aV 2 rfl (by kernel_rfl) (vF Tryz.underlying27 SZ25 rfl) ?_
   refine aV 3 rfl (by kernel_rfl) (vL 0 Tryz.underlying25 rfl) ?_
   refine a_1 (i:=4) (by kernel_rfl) ?_
   refine i_e rfl rfl (eC [3] #[.slice A2_0 l2_0.length c2_0] Tryz.func7 (by decide) rfl (fun w ht=>stepstonelaw06_News_con _ A2_0 c2_0 l2_0 t48_ e49_ w _)) ?_
   intro A58_ c59_
   refine ⟨(mem_pick (idx:=[1,2,3,4]) rfl),?_⟩
   refine a_1 (i:=5) (by kernel_rfl) ?_
   refine i_e rfl rfl (e_bslice #[.slice A58_ t48_.length c59_] (.slice none 0 0) rfl rfl rfl Tryz.underlying61 SZ29 ZR29 (by decide) rfl (by kernel_rfl)) ?_
   intro b60_
   refine ⟨(mem_pick (idx:=[2,3,4,5]) rfl),?_⟩
   refine a_1 (i:=6) (by kernel_rfl) ?_
   refine i_give [0,1,2,3,4,5] rfl (by decide) (by simp [ids,Ent.id?]) (fun w_ h_=>h_) ?_
   refine i_both 0 1 rfl rfl ?_
   refine i_weak 0 rfl (fun w_ h_=>KC_ofReps0 (d:=(Kd.slice 53 k53)) (xs:=([t48_]:List (List S53))) (cap:=1) (h_.1) (reps1_cons (kslice_mk h_.2) (Reps.none _ _)) (by rfl) (by simp) (by decide)) ?_
   refine i_e rfl rfl (eC [6,0] #[.agg (cfA p0 p1 p2 p3 p4 p5 p6),.slice A1 l1.length c1,.slice (some ⟨b60_,0,none⟩) 1 1] Tryz.func8 (by decide) rfl (fun w ht=>pack_Cells_con _ p0 p1 p2 p3 p4 p5 p6 A1 c1 l1 (some ⟨b60_,0,none⟩) 1 ([t48_]:List (List S53)) t53_ t54_ e55_ w _)) ?_
   intro A61_ c62_
   refine ⟨(mem_pick (idx:=[5,6,7,8]) rfl),?_⟩
   refine aV 7 rfl (by kernel_rfl) (vM rfl) ?_
   refine aV 8 rfl (by kernel_rfl) (v_ext rfl rfl rfl) ?_
   refine aV 9 rfl (by kernel_rfl) (v_ext rfl rfl rfl) ?_
   refine aV 10 rfl (by kernel_rfl) (vA rfl) ?_
   refine aV 11 rfl (by kernel_rfl) (vA rfl) ?_
   refine a_end (by kernel_rfl) ?_
   refine q_seq ?_
   refine c_seq rfl ?_
   refine c_seq rfl ?_
   refine r_ordb (l:=[0,1,2,3,4]) rfl (by kernel_rfl) ?_
   refine sM rfl ?_
   refine sV rfl (v_len rfl rfl rfl Tryz.underlying24 rfl rfl) ?_
   refine sM rfl ?_
   refine sV rfl (v_len rfl rfl rfl Tryz.underlying24 rfl rfl) ?_
   refine sR rfl ?_
   refine sQ ?_
   rcases Bool.eq_false_or_eq_true (((t53_.length:Int):Int) != (l1.length:Int)) with h66_ | h66_
   ·
    replace H:=ite_n (ibne_t h66_) H
    refine cT h66_ rfl ?_
    refine c_seq rfl ?_
    refine r_ordb (l:=[0]) rfl (by kernel_rfl) ?_
    refine sA rfl ?_
    refine sQ ?_
    refine c_ret rfl ?_
    refine q_then_ret ?_
    have e_:=Option.some.inj H
    subst e_
    exact q_ret (vs:=[.bool false]) rfl (.tmp rfl .nil) [] rfl (by decide) (hX)
   ·
    replace H:=ite_y (ibne_f h66_) H
    refine cF h66_ rfl ?_
    refine kQ rfl ?_
    refine c_seq rfl ?_
    refine r_ordb (l:=[0,1,2,3,4,5,6,7]) rfl (by kernel_rfl) ?_
    refine sV rfl (vLA (lfA p0 p1 p2 p3 p4 p5 p6) 6 Tryz.underlying23 SZ23 rfl) ?_
    refine sM rfl ?_
    obtain ⟨⟨t74_,t75_⟩,e76_,H⟩:=bind_s H
    refine s_e rfl rfl (eC [7] #[.agg (cfA p0 p1 p2 p3 p4 p5 p6),.slice A1 l1.length c1,.I 0] Tryz.func16 (by decide) rfl (fun w ht=>sr21_Level_con _ p0 p1 p2 p3 p4 p5 p6 A1 c1 l1 0 t74_ t75_ e76_ w _)) ?_
    intro A77_ c78_
    refine sM rfl ?_
    refine sV rfl (v_ext rfl rfl rfl) ?_
    refine sV rfl (v_ext rfl rfl rfl) ?_
    refine sA rfl ?_
    refine sA rfl ?_
    refine sE rfl ?_
    refine r_ordb (l:=[0,1,2,3,4,5,6,7]) rfl (by kernel_rfl) ?_
    refine sV rfl (vLA (lfA p0 p1 p2 p3 p4 p5 p6) 7 Tryz.underlying23 SZ23 rfl) ?_
    refine sM rfl ?_
    obtain ⟨⟨t84_,t85_⟩,e86_,H⟩:=bind_s H
    refine s_e rfl rfl (eC [1] #[.agg (cfA p0 p1 p2 p3 p4 p5 p6),.slice A61_ t53_.length c62_,.I 0] Tryz.func16 (by decide) rfl (fun w ht=>sr21_Level_con _ p0 p1 p2 p3 p4 p5 p6 A61_ c62_ t53_ 0 t84_ t85_ e86_ w _)) ?_
    intro A87_ c88_
    refine sM rfl ?_
    refine sV rfl (v_ext rfl rfl rfl) ?_
    refine sV rfl (v_ext rfl rfl rfl) ?_
    refine sA rfl ?_
    refine sA rfl ?_
    refine sE rfl ?_
    refine c_seq rfl ?_
    refine r_ordb (l:=[0,1,2]) rfl (by kernel_rfl) ?_
    refine sM rfl ?_
    refine sV rfl (v_len rfl rfl rfl Tryz.underlying24 rfl rfl) ?_
    refine sM rfl ?_
    refine sQ ?_
    refine c_block rfl ?_
    refine c_loop (σ:=Nat × Int) (fun (k,x124_)=>stepstonelaw22_PackHandles.l0 k p0 p1 p2 p3 p4 p5 p6 l2_0 t53_ t74_ t84_ x124_=some r0) (fun (k,x124_)=>k) (fun (k,x124_)=>[(3,.P b3_),(5,.P b4_),(6,.bool false),(7,.slice A61_ t53_.length c62_),(9,.slice A77_ t74_.length c78_),(11,.slice A87_ t84_.length c88_),(73,.slice A77_ t74_.length c78_),(74,.I (t74_.length:Int)),(75,.I x124_)]) (fun (k,x124_)=>[.f (KU A87_ c88_ t84_),.f (KU A77_ c78_ t74_),.f (KU A61_ c62_ t53_),.f (KC (Kd.slice 53 k53) (some ⟨b60_,0,none⟩) 1 ([t48_]:List (List S53))),.f (fun w_=>(fun w_=>w_.heap[b60_]?=some (.cells #[.slice A58_ t48_.length c59_] 29 (0,0))) w_∧(KC k53 A58_ c59_ t48_) w_),.f (fun w_=>w_.heap[b60_]?=some (.cells #[.slice A58_ t48_.length c59_] 29 (0,0))),.f (KC k53 A58_ c59_ t48_),.b b4_ (.cells #[.slice A2_0 l2_0.length c2_0,.I a2_1] 27 (0,0)),.b b3_ (.cells (cfA p0 p1 p2 p3 p4 p5 p6) 23 (0,0)),.f (KU A1 c1 l1),.f (KC k47 A2_0 c2_0 l2_0)]) (k,0) [0,1,2,3,4,5,6,7,8,9,10] rfl H (subF_spec ⟨rfl,rfl,rfl,rfl,rfl,rfl,rfl,rfl,rfl,trivial⟩) rfl (by decide) ?_
    rintro ⟨k0_,x124_⟩ hs161_
    clear H
    have H:stepstonelaw22_PackHandles.l0 k0_ p0 p1 p2 p3 p4 p5 p6 l2_0 t53_ t74_ t84_ x124_=some r0:=hs161_
    try clear hs161_
    rcases k0_ with _ | k0_
    ·exact none_no (show none=_ from H)
    unfold stepstonelaw22_PackHandles.l0 at H
    have hko_0:k0_≤k0_:=Nat.le_refl _
    refine c_seq rfl ?_
    refine r_ordb (l:=[0]) rfl (by kernel_rfl) ?_
    refine sR rfl ?_
    refine sE rfl ?_
    rcases Bool.eq_false_or_eq_true (decide ((x124_:Int)<(t74_.length:Int))) with h165_ | h165_
    ·
     replace H:=ite_y (dec_t h165_) H
     refine cT h165_ rfl ?_
     refine kQ rfl ?_
     refine c_seq rfl ?_
     refine c_block rfl ?_
     refine c_seq rfl ?_
     refine r_ordb (l:=[0,1,2]) rfl (by kernel_rfl) ?_
     obtain ⟨n168_,H⟩:=ite_no H
     refine sV rfl (v_iaK (i:=1) rfl Tryz.underlying24 SZ41 rfl rfl rfl rfl n168_ (dec_t h165_)) ?_
     refine sV rfl (v_ldK (v := .U (rd t74_ x124_)) 0 1 rfl Tryz.underlying41 rfl rfl rfl rfl n168_ (dec_t h165_) (fun w K h=>h)) ?_
     refine sA rfl ?_
     refine sE rfl ?_
     refine r_ordb (l:=[0,1,2]) rfl (by kernel_rfl) ?_
     refine sM rfl ?_
     obtain ⟨t171_,e172_,H⟩:=bind_s H
     refine s_e rfl rfl (eC [] #[.U (rd t74_ x124_)] Tryz.func17 (by decide) rfl (fun w ht=>sr01_Index_con (rd t74_ x124_) t171_ e172_ w _)) ?_
     refine sA rfl ?_
     refine sE rfl ?_
     refine r_ordb (l:=[0]) rfl (by kernel_rfl) ?_
     refine sA rfl ?_
     refine sE rfl ?_
     refine c_seq rfl ?_
     refine r_ordb (l:=[0,1,2]) rfl (by kernel_rfl) ?_
     refine sM rfl ?_
     refine sV rfl (v_len rfl rfl rfl Tryz.underlying24 rfl rfl) ?_
     refine sM rfl ?_
     refine sQ ?_
     refine c_block rfl ?_
     refine c_loop (σ:=Nat × Bool × Int) (fun (k,x176_,x177_)=>stepstonelaw22_PackHandles.l1 k p0 p1 p2 p3 p4 p5 p6 l2_0 t53_ t74_ t84_ x124_ t171_ x176_ x177_=some r0∧k≤k0_) (fun (k,x176_,x177_)=>k) (fun (k,x176_,x177_)=>[(3,.P b3_),(5,.P b4_),(6,.bool false),(7,.slice A61_ t53_.length c62_),(9,.slice A77_ t74_.length c78_),(11,.slice A87_ t84_.length c88_),(73,.slice A77_ t74_.length c78_),(74,.I (t74_.length:Int)),(75,.I x124_),(76,.bool (decide ((x124_:Int)<(t74_.length:Int)))),(77,.pointer (some (at0 A77_ x124_ 1))),(78,.U (rd t74_ x124_)),(14,.U (rd t74_ x124_)),(79,.U (rd t74_ x124_)),(80,.I t171_),(15,.I t171_),(16,.bool x176_),(81,.slice A87_ t84_.length c88_),(82,.I (t84_.length:Int)),(83,.I x177_)]) (fun (k,x176_,x177_)=>[.f (KU A87_ c88_ t84_),.f (KU A77_ c78_ t74_),.f (KU A61_ c62_ t53_),.f (KC (Kd.slice 53 k53) (some ⟨b60_,0,none⟩) 1 ([t48_]:List (List S53))),.f (fun w_=>(fun w_=>w_.heap[b60_]?=some (.cells #[.slice A58_ t48_.length c59_] 29 (0,0))) w_∧(KC k53 A58_ c59_ t48_) w_),.f (fun w_=>w_.heap[b60_]?=some (.cells #[.slice A58_ t48_.length c59_] 29 (0,0))),.f (KC k53 A58_ c59_ t48_),.b b4_ (.cells #[.slice A2_0 l2_0.length c2_0,.I a2_1] 27 (0,0)),.b b3_ (.cells (cfA p0 p1 p2 p3 p4 p5 p6) 23 (0,0)),.f (KU A1 c1 l1),.f (KC k47 A2_0 c2_0 l2_0)]) (k0_,false,0) [0,1,2,3,4,5,6,7,8,9,10] rfl ⟨H,hko_0⟩ (subF_spec ⟨rfl,rfl,rfl,rfl,rfl,rfl,rfl,rfl,rfl,rfl,rfl,rfl,rfl,rfl,rfl,rfl,rfl,rfl,rfl,rfl,trivial⟩) rfl (by decide) ?_
     rintro ⟨k1_,x176_,x177_⟩ hs183_
     clear H
     obtain ⟨H,hko_0⟩:stepstonelaw22_PackHandles.l1 k1_ p0 p1 p2 p3 p4 p5 p6 l2_0 t53_ t74_ t84_ x124_ t171_ x176_ x177_=some r0∧k1_≤k0_:=hs183_
     try clear hs183_
     rcases k1_ with _ | k1_
     ·exact none_no (show none=_ from H)
     unfold stepstonelaw22_PackHandles.l1 at H
     replace hko_0:=Nat.le_of_succ_le hko_0
     have hko_1:k1_≤k1_:=Nat.le_refl _
     refine c_seq rfl ?_
     refine r_ordb (l:=[0]) rfl (by kernel_rfl) ?_
     refine sR rfl ?_
     refine sE rfl ?_
     rcases Bool.eq_false_or_eq_true (decide ((x177_:Int)<(t84_.length:Int))) with h187_ | h187_
     ·
      replace H:=ite_y (dec_t h187_) H
      refine cT h187_ rfl ?_
      refine kQ rfl ?_
      obtain ⟨⟨j191_,j192_,j193_,j194_⟩,e195_,H⟩:=bind_s H
      refine c_join (β:=Unit) (fun _=>True) (fun _=>[(3,.P b3_),(5,.P b4_),(6,.bool false),(7,.slice A61_ t53_.length c62_),(9,.slice A77_ t74_.length c78_),(11,.slice A87_ t84_.length c88_),(73,.slice A77_ t74_.length c78_),(74,.I (t74_.length:Int)),(75,.I x124_),(76,.bool (decide ((x124_:Int)<(t74_.length:Int)))),(77,.pointer (some (at0 A77_ x124_ 1))),(78,.U (rd t74_ x124_)),(14,.U (rd t74_ x124_)),(79,.U (rd t74_ x124_)),(80,.I t171_),(15,.I t171_),(16,.bool j191_),(81,.slice A87_ t84_.length c88_),(82,.I (t84_.length:Int)),(83,.I x177_),(84,.bool (decide ((x177_:Int)<(t84_.length:Int)))),(85,.pointer (some (at0 A87_ x177_ 1))),(86,.U (rd t84_ x177_)),(18,.U (rd t84_ x177_)),(87,.bool j192_),(88,.bool j193_),(92,.bool j194_)]) (fun _=>[.f (KU A87_ c88_ t84_),.f (KU A77_ c78_ t74_),.f (KU A61_ c62_ t53_),.f (KC (Kd.slice 53 k53) (some ⟨b60_,0,none⟩) 1 ([t48_]:List (List S53))),.f (fun w_=>(fun w_=>w_.heap[b60_]?=some (.cells #[.slice A58_ t48_.length c59_] 29 (0,0))) w_∧(KC k53 A58_ c59_ t48_) w_),.f (fun w_=>w_.heap[b60_]?=some (.cells #[.slice A58_ t48_.length c59_] 29 (0,0))),.f (KC k53 A58_ c59_ t48_),.b b4_ (.cells #[.slice A2_0 l2_0.length c2_0,.I a2_1] 27 (0,0)),.b b3_ (.cells (cfA p0 p1 p2 p3 p4 p5 p6) 23 (0,0)),.f (KU A1 c1 l1),.f (KC k47 A2_0 c2_0 l2_0)]) rfl (fun _ _=>?_) (fun J_=>?_)
      ·
       refine r_ordb (l:=[0,1]) rfl (by kernel_rfl) ?_
       refine sR rfl ?_
       refine sM rfl ?_
       refine s_end ?_
       exact q_again (k1_,j191_,IntKind.wrap .i64 (x177_+1)) [0,1,2,3,4,5,6,7,8,9,10] ⟨H,hko_0⟩ (Nat.lt_succ_of_le hko_1) (subF_spec ⟨rfl,rfl,rfl,rfl,rfl,rfl,rfl,rfl,rfl,rfl,rfl,rfl,rfl,rfl,rfl,rfl,rfl,rfl,rfl,rfl,trivial⟩) rfl (by decide)
      ·
       clear H
       have H:=e195_
       clear e195_
       refine c_block rfl ?_
       refine c_seq rfl ?_
       refine r_ordb (l:=[0,1,2]) rfl (by kernel_rfl) ?_
       obtain ⟨n197_,H⟩:=ite_no H
       refine sV rfl (v_iaK (i:=0) rfl Tryz.underlying24 SZ41 rfl rfl rfl rfl n197_ (dec_t h187_)) ?_
       refine sV rfl (v_ldK (v := .U (rd t84_ x177_)) 0 0 rfl Tryz.underlying41 rfl rfl rfl rfl n197_ (dec_t h187_) (fun w K h=>h)) ?_
       refine sA rfl ?_
       refine sQ ?_
       refine r_ordb (l:=[0,1,2,3,4,5,6]) rfl (by kernel_rfl) ?_
       refine sM rfl ?_
       refine sM rfl ?_
       rcases Bool.eq_false_or_eq_true x176_ with h198_ | h198_
       ·
        subst h198_
        replace H:=ite_y rfl H
        refine sN rfl ?_
        refine sN rfl ?_
        refine sN rfl ?_
        refine sP rfl ?_
        refine sA rfl ?_
        refine s_end ?_
        refine q_block ?_
        have hq_0:=Option.some.inj H
        obtain ⟨ee_0,hq_1⟩:=Prod.mk.inj hq_0
        obtain ⟨ee_1,hq_2⟩:=Prod.mk.inj hq_1
        obtain ⟨ee_2,hq_3⟩:=Prod.mk.inj hq_2
        subst ee_0
        subst ee_1
        subst ee_2
        subst hq_3
        exact q_seq (c_frame (subF_spec (by exact ⟨rfl,rfl,rfl,rfl,rfl,rfl,rfl,rfl,rfl,rfl,rfl,rfl,rfl,rfl,rfl,rfl,rfl,rfl,rfl,rfl,rfl,rfl,rfl,rfl,rfl,rfl,rfl,trivial⟩)) (c_take [0,1,2,3,4,5,6,7,8,9,10] rfl (by decide) (J_ () trivial)))
       ·
        subst h198_
        replace H:=ite_n (by decide) H
        refine sG rfl (vM rfl) ?_
        refine sG rfl (vM rfl) ?_
        refine sG rfl (vR rfl) ?_
        refine sP rfl ?_
        refine sA rfl ?_
        refine s_end ?_
        refine q_block ?_
        have hq_0:=Option.some.inj H
        obtain ⟨ee_0,hq_1⟩:=Prod.mk.inj hq_0
        obtain ⟨ee_1,hq_2⟩:=Prod.mk.inj hq_1
        obtain ⟨ee_2,hq_3⟩:=Prod.mk.inj hq_2
        subst ee_0
        subst ee_1
        subst ee_2
        subst hq_3
        exact q_seq (c_frame (subF_spec (by exact ⟨rfl,rfl,rfl,rfl,rfl,rfl,rfl,rfl,rfl,rfl,rfl,rfl,rfl,rfl,rfl,rfl,rfl,rfl,rfl,rfl,rfl,rfl,rfl,rfl,rfl,rfl,rfl,trivial⟩)) (c_take [0,1,2,3,4,5,6,7,8,9,10] rfl (by decide) (J_ () trivial)))
     ·
      replace H:=ite_n (dec_f h187_) H
      refine cF h187_ rfl ?_
      refine c_exit (i:=2) rfl rfl ?_
      refine q_then_exit ?_
      refine q_then_exit ?_
      refine q_block_here rfl ?_
      refine q_seq ?_
      refine c_seq rfl ?_
      refine r_ordb (l:=[0,1,2,3,4,5,6]) rfl (by kernel_rfl) ?_
      refine sM rfl ?_
      refine sV rfl (vLA (lfA p0 p1 p2 p3 p4 p5 p6) 8 Tryz.underlying23 SZ23 rfl) ?_
      refine sM rfl ?_
      obtain ⟨t204_,e205_,H⟩:=bind_s H
      refine s_e rfl rfl (eC [] #[.agg (cfA p0 p1 p2 p3 p4 p5 p6),.I t171_,.I 0] Tryz.func15 (by decide) rfl (fun w ht=>sr04_Cell_con p0 p1 p2 p3 p4 p5 p6 t171_ 0 t204_ e205_ w _)) ?_
      obtain ⟨n206_,H⟩:=ite_no H
      obtain ⟨n207_,H⟩:=ite_no H
      refine sV rfl (v_iaK (i:=2) rfl Tryz.underlying24 SZ41 rfl rfl rfl rfl n206_ n207_) ?_
      refine sV rfl (v_ldK (v := .U (rd t53_ t204_)) 0 2 rfl Tryz.underlying41 rfl rfl rfl rfl n206_ n207_ (fun w K h=>h)) ?_
      refine sA rfl ?_
      refine sQ ?_
      obtain ⟨⟨j215_,j216_⟩,e217_,H⟩:=bind_s H
      refine c_join (β:=Unit) (fun _=>True) (fun _=>[(3,.P b3_),(5,.P b4_),(6,.bool false),(7,.slice A61_ t53_.length c62_),(9,.slice A77_ t74_.length c78_),(11,.slice A87_ t84_.length c88_),(73,.slice A77_ t74_.length c78_),(74,.I (t74_.length:Int)),(75,.I x124_),(76,.bool (decide ((x124_:Int)<(t74_.length:Int)))),(77,.pointer (some (at0 A77_ x124_ 1))),(78,.U (rd t74_ x124_)),(14,.U (rd t74_ x124_)),(79,.U (rd t74_ x124_)),(80,.I t171_),(15,.I t171_),(16,.bool x176_),(81,.slice A87_ t84_.length c88_),(82,.I (t84_.length:Int)),(83,.I x177_),(84,.bool (decide ((x177_:Int)<(t84_.length:Int)))),(94,.slice A61_ t53_.length c62_),(95,.agg (cfA p0 p1 p2 p3 p4 p5 p6)),(96,.I t171_),(97,.I t204_),(98,.pointer (some (at0 A61_ t204_ 1))),(99,.U (rd t53_ t204_)),(19,.U (rd t53_ t204_)),(100,.bool x176_),(101,.bool (!x176_)),(102,.bool j215_),(108,.bool j216_)]) (fun _=>[.f (KU A87_ c88_ t84_),.f (KU A77_ c78_ t74_),.f (KU A61_ c62_ t53_),.f (KC (Kd.slice 53 k53) (some ⟨b60_,0,none⟩) 1 ([t48_]:List (List S53))),.f (fun w_=>(fun w_=>w_.heap[b60_]?=some (.cells #[.slice A58_ t48_.length c59_] 29 (0,0))) w_∧(KC k53 A58_ c59_ t48_) w_),.f (fun w_=>w_.heap[b60_]?=some (.cells #[.slice A58_ t48_.length c59_] 29 (0,0))),.f (KC k53 A58_ c59_ t48_),.b b4_ (.cells #[.slice A2_0 l2_0.length c2_0,.I a2_1] 27 (0,0)),.b b3_ (.cells (cfA p0 p1 p2 p3 p4 p5 p6) 23 (0,0)),.f (KU A1 c1 l1),.f (KC k47 A2_0 c2_0 l2_0)]) rfl (fun _ _=>?_) (fun J_=>?_)
      ·
       rcases Bool.eq_false_or_eq_true j216_ with h218_ | h218_
       ·
        subst h218_
        replace H:=ite_y rfl H
        refine c_cond1 rfl rfl ?_
        refine c_seq rfl ?_
        refine r_ordb (l:=[0]) rfl (by kernel_rfl) ?_
        refine sA rfl ?_
        refine sQ ?_
        refine c_ret rfl ?_
        refine q_block_ret ?_
        refine q_then_ret ?_
        refine q_then_ret ?_
        refine q_block_ret ?_
        refine q_then_ret ?_
        have e_:=Option.some.inj H
        subst e_
        exact q_ret (vs:=[.bool false]) rfl (.tmp rfl .nil) [] rfl (by decide) (hX)
       ·
        subst h218_
        replace H:=ite_n (by decide) H
        refine c_cond0 rfl rfl ?_
        refine c_skip rfl ?_
        refine q_block ?_
        refine q_seq ?_
        refine r_ordb (l:=[0,1]) rfl (by kernel_rfl) ?_
        refine sR rfl ?_
        refine sM rfl ?_
        refine s_end ?_
        exact q_again (k1_,IntKind.wrap .i64 (x124_+1)) [0,1,2,3,4,5,6,7,8,9,10] H (Nat.lt_succ_of_le hko_0) (subF_spec ⟨rfl,rfl,rfl,rfl,rfl,rfl,rfl,rfl,rfl,trivial⟩) rfl (by decide)
      ·
       clear H
       have H:=e217_
       clear e217_
       refine r_ordb (l:=[0,1,2,3,4,5,6,7,8]) rfl (by kernel_rfl) ?_
       refine sM rfl ?_
       refine sV rfl (v_not rfl rfl) ?_
       refine sM rfl ?_
       rcases Bool.eq_false_or_eq_true (!x176_) with h219_ | h219_
       ·
        replace H:=ite_n (not_t (bnot_t h219_)) H
        refine s_splitv (d:=102) (t:=!x176_) rfl (fun _=>?_) (fun h220_=>absurd (h220_.symm.trans h219_) (by decide))
        refine sG rfl (vM rfl) ?_
        refine sG rfl (vM rfl) ?_
        obtain ⟨t221_,e222_,H⟩:=bind_s H
        refine s_eg rfl rfl (eC [] #[.U (rd t74_ x124_)] Tryz.func19 (by decide) rfl (fun w ht=>sr01_Gen_con (rd t74_ x124_) t221_ e222_ w _)) ?_
        obtain ⟨t223_,e224_,H⟩:=bind_s H
        refine s_eg rfl rfl (eC [] #[.I t221_] Tryz.func18 (by decide) rfl (fun w ht=>sr02_Taken_con t221_ t223_ e224_ w _)) ?_
        refine sG rfl (vR rfl) ?_
        refine sP rfl ?_
        refine s_end ?_
        have hq_0:=Option.some.inj H
        obtain ⟨ee_0,hq_1⟩:=Prod.mk.inj hq_0
        subst ee_0
        subst hq_1
        exact q_seq (c_frame (subF_spec (by exact ⟨rfl,rfl,rfl,rfl,rfl,rfl,rfl,rfl,rfl,rfl,rfl,rfl,rfl,rfl,rfl,rfl,rfl,rfl,rfl,rfl,rfl,rfl,rfl,rfl,rfl,rfl,rfl,rfl,rfl,rfl,rfl,rfl,trivial⟩)) (c_take [0,1,2,3,4,5,6,7,8,9,10] rfl (by decide) (J_ () trivial)))
       ·
        replace H:=ite_y (bnot_f h219_) H
        refine s_splitv (d:=102) (t:=!x176_) rfl (fun h225_=>absurd (h225_.symm.trans h219_) (by decide)) (fun _=>?_)
        refine sN rfl ?_
        refine sN rfl ?_
        refine sN rfl ?_
        refine sN rfl ?_
        refine sN rfl ?_
        refine sP rfl ?_
        refine s_end ?_
        have hq_0:=Option.some.inj H
        obtain ⟨ee_0,hq_1⟩:=Prod.mk.inj hq_0
        subst ee_0
        subst hq_1
        exact q_seq (c_frame (subF_spec (by exact ⟨rfl,rfl,rfl,rfl,rfl,rfl,rfl,rfl,rfl,rfl,rfl,rfl,rfl,rfl,rfl,rfl,rfl,rfl,rfl,rfl,rfl,rfl,rfl,rfl,rfl,rfl,rfl,rfl,rfl,rfl,rfl,rfl,trivial⟩)) (c_take [0,1,2,3,4,5,6,7,8,9,10] rfl (by decide) (J_ () trivial)))
    ·
     replace H:=ite_n (dec_f h165_) H
     refine cF h165_ rfl ?_
     refine c_exit (i:=0) rfl rfl ?_
     refine q_then_exit ?_
     refine q_then_exit ?_
     refine q_block_here rfl ?_
     refine q_seq ?_
     refine c_seq rfl ?_
     refine c_seq rfl ?_
     refine r_ordb (l:=[0,1,2,3]) rfl (by kernel_rfl) ?_
     refine sV rfl (vF Tryz.underlying27 SZ25 rfl) ?_
     refine sV rfl (vL 7 Tryz.underlying25 rfl) ?_
     refine sV rfl (v_len rfl rfl rfl Tryz.underlying25 rfl rfl) ?_
     refine sM rfl ?_
     refine sQ ?_
     refine c_block rfl ?_
     refine c_loop (σ:=Nat × Int) (fun (k,x244_)=>stepstonelaw22_PackHandles.l2 k p0 p1 p2 p3 p4 p5 p6 l2_0 t53_ t74_ t84_ x244_=some r0) (fun (k,x244_)=>k) (fun (k,x244_)=>[(3,.P b3_),(6,.bool false),(7,.slice A61_ t53_.length c62_),(9,.slice A77_ t74_.length c78_),(11,.slice A87_ t84_.length c88_),(111,.slice A2_0 l2_0.length c2_0),(112,.I (l2_0.length:Int)),(113,.I x244_)]) (fun (k,x244_)=>[.f (KU A87_ c88_ t84_),.f (KU A77_ c78_ t74_),.f (KU A61_ c62_ t53_),.f (KC (Kd.slice 53 k53) (some ⟨b60_,0,none⟩) 1 ([t48_]:List (List S53))),.f (fun w_=>(fun w_=>w_.heap[b60_]?=some (.cells #[.slice A58_ t48_.length c59_] 29 (0,0))) w_∧(KC k53 A58_ c59_ t48_) w_),.f (fun w_=>w_.heap[b60_]?=some (.cells #[.slice A58_ t48_.length c59_] 29 (0,0))),.f (KC k53 A58_ c59_ t48_),.b b4_ (.cells #[.slice A2_0 l2_0.length c2_0,.I a2_1] 27 (0,0)),.b b3_ (.cells (cfA p0 p1 p2 p3 p4 p5 p6) 23 (0,0)),.f (KU A1 c1 l1),.f (KC k47 A2_0 c2_0 l2_0)]) (k0_,0) [0,1,2,3,4,5,6,7,8,9,10] rfl H (subF_spec ⟨rfl,rfl,rfl,rfl,rfl,rfl,rfl,rfl,trivial⟩) rfl (by decide) ?_
     rintro ⟨k2_,x244_⟩ hs263_
     clear H
     have H:stepstonelaw22_PackHandles.l2 k2_ p0 p1 p2 p3 p4 p5 p6 l2_0 t53_ t74_ t84_ x244_=some r0:=hs263_
     try clear hs263_
     rcases k2_ with _ | k2_
     ·exact none_no (show none=_ from H)
     unfold stepstonelaw22_PackHandles.l2 at H
     have hko_2:k2_≤k2_:=Nat.le_refl _
     refine c_seq rfl ?_
     refine r_ordb (l:=[0]) rfl (by kernel_rfl) ?_
     refine sR rfl ?_
     refine sE rfl ?_
     rcases Bool.eq_false_or_eq_true (decide ((x244_:Int)<(l2_0.length:Int))) with h267_ | h267_
     ·
      replace H:=ite_y (dec_t h267_) H
      refine cT h267_ rfl ?_
      refine kQ rfl ?_
      refine c_seq rfl ?_
      refine c_block rfl ?_
      refine c_seq rfl ?_
      refine r_ordb (l:=[0,1,2,3]) rfl (by kernel_rfl) ?_
      obtain ⟨n286_,H⟩:=ite_no H
      refine sV rfl (v_iaK (i:=10) rfl Tryz.underlying25 SZ47 rfl rfl rfl rfl n286_ (dec_t h267_)) ?_
      refine sV rfl (v_ldKA z47 [.U ((rd_T47 l2_0 x244_).f0),.U ((rd_T47 l2_0 x244_).f1),.U ((rd_T47 l2_0 x244_).f2)] 10 rfl Tryz.underlying47 rfl SZ47 rfl rfl rfl rfl n286_ (dec_t h267_) (fun w K h=>k47_open h)) ?_
      refine s_e rfl rfl (e_alloc rfl rfl rfl ZR47) ?_
      intro b287_
      refine s_e rfl rfl (e_stA 0 rfl rfl SZ47 rfl rfl rfl rfl rfl rfl) ?_
      refine sE rfl ?_
      refine r_ordb (l:=[0,1,2,3]) rfl (by kernel_rfl) ?_
      refine sV rfl (vF Tryz.underlying47 SZ41 rfl) ?_
      refine sV rfl (vL 0 Tryz.underlying41 rfl) ?_
      obtain ⟨t290_,e291_,H⟩:=bind_s H
      refine s_e rfl rfl (eC [] #[.U ((rd_T47 l2_0 x244_).f0)] Tryz.func17 (by decide) rfl (fun w ht=>sr01_Index_con ((rd_T47 l2_0 x244_).f0) t290_ e291_ w _)) ?_
      refine sA rfl ?_
      refine sE rfl ?_
      obtain ⟨t300_,e301_,H⟩:=bind_s H
      obtain ⟨n302_,H⟩:=ite_no H
      obtain ⟨n303_,H⟩:=ite_no H
      obtain ⟨t304_,e305_,H⟩:=bind_s H
      obtain ⟨t306_,e307_,H⟩:=bind_s H
      refine r_any [.b b287_ (.cells #[.U ((rd_T47 l2_0 x244_).f0),.U ((rd_T47 l2_0 x244_).f1),.U ((rd_T47 l2_0 x244_).f2)] 47 (0,0)),.f (KU A87_ c88_ t84_),.f (KU A77_ c78_ t74_),.f (KU A61_ c62_ t53_),.f (KC (Kd.slice 53 k53) (some ⟨b60_,0,none⟩) 1 ([t48_]:List (List S53))),.f (fun w_=>(fun w_=>w_.heap[b60_]?=some (.cells #[.slice A58_ t48_.length c59_] 29 (0,0))) w_∧(KC k53 A58_ c59_ t48_) w_),.f (fun w_=>w_.heap[b60_]?=some (.cells #[.slice A58_ t48_.length c59_] 29 (0,0))),.f (KC k53 A58_ c59_ t48_),.b b4_ (.cells #[.slice A2_0 l2_0.length c2_0,.I a2_1] 27 (0,0)),.b b3_ (.cells (cfA p0 p1 p2 p3 p4 p5 p6) 23 (0,0)),.f (KU A1 c1 l1),.f (KC k47 A2_0 c2_0 l2_0)] (by kernel_rfl) rfl (by kernel_rfl) (mem_pick (idx:=[0,1,2,3,4,5,6,7,8,9,10,11]) rfl) ?_
      refine aV 0 rfl (by kernel_rfl) (vM rfl) ?_
      refine aV 1 rfl (by kernel_rfl) (vLA (lfA p0 p1 p2 p3 p4 p5 p6) 9 Tryz.underlying23 SZ23 rfl) ?_
      refine aV 2 rfl (by kernel_rfl) (vM rfl) ?_
      refine aV 6 rfl (by kernel_rfl) (vF Tryz.underlying47 SZ41 rfl) ?_
      refine aV 7 rfl (by kernel_rfl) (vL 0 Tryz.underlying41 rfl) ?_
      refine a_1 (i:=3) (by kernel_rfl) ?_
      refine i_e rfl rfl (eC [] #[.agg (cfA p0 p1 p2 p3 p4 p5 p6),.I t290_,.I 0] Tryz.func15 (by decide) rfl (fun w ht=>sr04_Cell_con p0 p1 p2 p3 p4 p5 p6 t290_ 0 t300_ e301_ w _)) ?_
      refine ⟨(mem_pick (idx:=[0,1,2,3,4,5,6,7,8,9,10,11]) rfl),?_⟩
      refine aV 4 rfl (by kernel_rfl) (v_iaK (i:=3) rfl Tryz.underlying24 SZ41 rfl rfl rfl rfl n302_ n303_) ?_
      refine aV 5 rfl (by kernel_rfl) (v_ldK (v := .U (rd t53_ t300_)) 0 3 rfl Tryz.underlying41 rfl rfl rfl rfl n302_ n303_ (fun w K h=>h)) ?_
      refine a_1 (i:=8) (by kernel_rfl) ?_
      refine i_e rfl rfl (eC [] #[.U ((rd_T47 l2_0 x244_).f0)] Tryz.func19 (by decide) rfl (fun w ht=>sr01_Gen_con ((rd_T47 l2_0 x244_).f0) t304_ e305_ w _)) ?_
      refine ⟨(mem_pick (idx:=[0,1,2,3,4,5,6,7,8,9,10,11]) rfl),?_⟩
      refine a_1 (i:=9) (by kernel_rfl) ?_
      refine i_e rfl rfl (eC [] #[.I t304_] Tryz.func18 (by decide) rfl (fun w ht=>sr02_Taken_con t304_ t306_ e307_ w _)) ?_
      refine ⟨(mem_pick (idx:=[0,1,2,3,4,5,6,7,8,9,10,11]) rfl),?_⟩
      refine aV 10 rfl (by kernel_rfl) (vR rfl) ?_
      refine a_end (by kernel_rfl) ?_
      refine q_seq ?_
      rcases Bool.eq_false_or_eq_true ((rd t53_ t300_:Int) == t306_) with h308_ | h308_
      ·
       replace H:=ite_y (ibeq_t h308_) H
       refine cT h308_ rfl ?_
       refine c_seq rfl ?_
       refine r_ordb (l:=[0]) rfl (by kernel_rfl) ?_
       refine sA rfl ?_
       refine sQ ?_
       refine c_ret rfl ?_
       refine q_block_ret ?_
       refine q_then_ret ?_
       refine q_then_ret ?_
       refine q_block_ret ?_
       refine q_then_ret ?_
       have e_:=Option.some.inj H
       subst e_
       exact q_ret (vs:=[.bool false]) rfl (.tmp rfl .nil) [] rfl (by decide) (hX)
      ·
       replace H:=ite_n (ibeq_f h308_) H
       refine cF h308_ rfl ?_
       refine c_skip rfl ?_
       refine q_block ?_
       refine q_seq ?_
       refine r_ordb (l:=[0,1]) rfl (by kernel_rfl) ?_
       refine sR rfl ?_
       refine sM rfl ?_
       refine s_end ?_
       exact q_again (k2_,IntKind.wrap .i64 (x244_+1)) [1,2,3,4,5,6,7,8,9,10,11] H (Nat.lt_succ_of_le hko_2) (subF_spec ⟨rfl,rfl,rfl,rfl,rfl,rfl,rfl,rfl,trivial⟩) rfl (by decide)
     ·
      replace H:=ite_n (dec_f h267_) H
      refine cF h267_ rfl ?_
      refine c_exit (i:=4) rfl rfl ?_
      refine q_then_exit ?_
      refine q_then_exit ?_
      refine q_block_here rfl ?_
      refine q_seq ?_
      refine c_seq rfl ?_
      refine r_ordb (l:=[0,1,2,3,4,5,6,7,8]) rfl (by kernel_rfl) ?_
      refine s_e rfl rfl (eC [] #[] Tryz.func6 (by decide) rfl (fun w ht=>alive_con w _)) ?_
      refine sM rfl ?_
      refine sG rfl (vM rfl) ?_
      refine sG rfl (v_len rfl rfl rfl Tryz.underlying24 rfl rfl) ?_
      refine sG rfl (vM rfl) ?_
      refine sG rfl (v_len rfl rfl rfl Tryz.underlying24 rfl rfl) ?_
      refine sG rfl (vR rfl) ?_
      refine sP rfl ?_
      refine sA rfl ?_
      refine sQ ?_
      refine c_ret rfl ?_
      have e_:=Option.some.inj H
      subst e_
      exact q_ret (vs:=[.bool (((t84_.length:Int):Int) == (t74_.length:Int))]) rfl (.tmp rfl .nil) [] rfl (by decide) (hX)
 ·
  clear H
  have H:=e31_
  clear e31_
  refine r_ordb (l:=[0,1,2,3,4,5,6,7,8,9,10,11,12,13,14,15,16,17,18,19,20,21]) rfl (by kernel_rfl) ?_
  refine sV rfl (vF Tryz.underlying23 SZ3 rfl) ?_
  refine sV rfl (vL 1 Tryz.underlying3 rfl) ?_
  refine sR rfl ?_
  refine sM rfl ?_
  rcases Bool.eq_false_or_eq_true (decide ((p2:Int) > 20)) with h312_ | h312_
  ·
   replace H:=ite_y (dec_t h312_) H
   refine s_splitv (d:=26) (t:=decide ((p2:Int) > 20)) rfl (fun _=>?_) (fun h313_=>absurd (h313_.symm.trans h312_) (by decide))
   refine sN rfl ?_
   refine sN rfl ?_
   refine sN rfl ?_
   refine sP rfl ?_
   refine sM rfl ?_
   refine sN rfl ?_
   refine sN rfl ?_
   refine sN rfl ?_
   refine sN rfl ?_
   refine sP rfl ?_
   refine sM rfl ?_
   refine sN rfl ?_
   refine sN rfl ?_
   refine sN rfl ?_
   refine sN rfl ?_
   refine sN rfl ?_
   refine sN rfl ?_
   refine sP rfl ?_
   refine s_end ?_
   have hq_0:=Option.some.inj H
   subst hq_0
   exact q_seq (c_frame (subF_spec (by exact ⟨rfl,rfl,rfl,rfl,rfl,trivial⟩)) (c_take [0,1,2,3] rfl (by decide) (J_ () trivial)))
  ·
   replace H:=ite_n (dec_f h312_) H
   refine s_splitv (d:=26) (t:=decide ((p2:Int) > 20)) rfl (fun h314_=>absurd (h314_.symm.trans h312_) (by decide)) (fun _=>?_)
   refine sG rfl (vM rfl) ?_
   refine sG rfl (v_len rfl rfl rfl Tryz.underlying24 rfl rfl) ?_
   refine sG rfl (vR rfl) ?_
   refine sP rfl ?_
   refine sM rfl ?_
   rcases Bool.eq_false_or_eq_true (decide (((l1.length:Int):Int) > 400)) with h315_ | h315_
   ·
    replace H:=ite_y (dec_t h315_) H
    refine s_splitv (d:=31) (t:=decide (((l1.length:Int):Int) > 400)) rfl (fun _=>?_) (fun h316_=>absurd (h316_.symm.trans h315_) (by decide))
    refine sN rfl ?_
    refine sN rfl ?_
    refine sN rfl ?_
    refine sN rfl ?_
    refine sP rfl ?_
    refine sM rfl ?_
    refine sN rfl ?_
    refine sN rfl ?_
    refine sN rfl ?_
    refine sN rfl ?_
    refine sN rfl ?_
    refine sN rfl ?_
    refine sP rfl ?_
    refine s_end ?_
    have hq_0:=Option.some.inj H
    subst hq_0
    exact q_seq (c_frame (subF_spec (by exact ⟨rfl,rfl,rfl,rfl,rfl,trivial⟩)) (c_take [0,1,2,3] rfl (by decide) (J_ () trivial)))
   ·
    replace H:=ite_n (dec_f h315_) H
    refine s_splitv (d:=31) (t:=decide (((l1.length:Int):Int) > 400)) rfl (fun h317_=>absurd (h317_.symm.trans h315_) (by decide)) (fun _=>?_)
    refine sG rfl (vF Tryz.underlying27 SZ25 rfl) ?_
    refine sG rfl (vL 0 Tryz.underlying25 rfl) ?_
    refine sG rfl (v_len rfl rfl rfl Tryz.underlying25 rfl rfl) ?_
    refine sG rfl (vR rfl) ?_
    refine sP rfl ?_
    refine sM rfl ?_
    rcases Bool.eq_false_or_eq_true (decide (((l2_0.length:Int):Int) > 40)) with h318_ | h318_
    ·
     replace H:=ite_y (dec_t h318_) H
     refine s_splitv (d:=37) (t:=decide (((l2_0.length:Int):Int) > 40)) rfl (fun _=>?_) (fun h319_=>absurd (h319_.symm.trans h318_) (by decide))
     refine sN rfl ?_
     refine sN rfl ?_
     refine sN rfl ?_
     refine sN rfl ?_
     refine sN rfl ?_
     refine sN rfl ?_
     refine sP rfl ?_
     refine s_end ?_
     have hq_0:=Option.some.inj H
     subst hq_0
     exact q_seq (c_frame (subF_spec (by exact ⟨rfl,rfl,rfl,rfl,rfl,trivial⟩)) (c_take [0,1,2,3] rfl (by decide) (J_ () trivial)))
    ·
     replace H:=ite_n (dec_f h318_) H
     refine s_splitv (d:=37) (t:=decide (((l2_0.length:Int):Int) > 40)) rfl (fun h320_=>absurd (h320_.symm.trans h318_) (by decide)) (fun _=>?_)
     refine sG rfl (vLA (lfA p0 p1 p2 p3 p4 p5 p6) 1 Tryz.underlying23 SZ23 rfl) ?_
     refine sG rfl (vM rfl) ?_
     refine sG rfl (vF Tryz.underlying27 SZ25 rfl) ?_
     refine sG rfl (vL 0 Tryz.underlying25 rfl) ?_
     obtain ⟨t321_,e322_,H⟩:=bind_s H
     refine s_eg rfl rfl (eC [2,3] #[.agg (cfA p0 p1 p2 p3 p4 p5 p6),.slice A1 l1.length c1,.slice A2_0 l2_0.length c2_0] Tryz.func11 (by decide) rfl (fun w ht=>sr21_Rest_con _ p0 p1 p2 p3 p4 p5 p6 A1 c1 l1 A2_0 c2_0 l2_0 t321_ e322_ w _)) ?_
     refine sG rfl (v_not rfl rfl) ?_
     refine sP rfl ?_
     refine s_end ?_
     have hq_0:=Option.some.inj H
     subst hq_0
     exact q_seq (c_frame (subF_spec (by exact ⟨rfl,rfl,rfl,rfl,rfl,trivial⟩)) (c_take [0,1,2,3] rfl (by decide) (J_ () trivial)))
end Go.Eng
namespace Go.Eng
open Go.Proofs Go.RowKit Go.Proofs.YtgbcnokeaaabfaaGreatW.PrintWords
set_option linter.unusedVariables false
set_option linter.unusedSimpArgs false
theorem ofInt_nat {x:Int} (h0:0≤x) (h1:x<18446744073709551616):((BitVec.ofInt 64 x).toNat:Int)=x:=by
 rw [BitVec.toNat_ofInt]
 have:0≤x % ((2 ^ 64:Nat):Int):=Int.emod_nonneg _ (by decide)
 rw [Int.toNat_of_nonneg this]
 exact Int.emod_eq_of_lt h0 h1
theorem and_pow (n i:Nat):n &&& 2 ^ i=(n.testBit i).toNat * 2 ^ i:=by
 apply Nat.eq_of_testBit_eq
 intro j
 rw [Nat.testBit_and,Nat.testBit_two_pow]
 cases h:n.testBit i
 ·simp only [Bool.toNat_false,Nat.zero_mul,Nat.zero_testBit]
  by_cases hj:i=j
  ·subst hj; simp [h]
  ·simp [hj]
 ·simp only [Bool.toNat_true,Nat.one_mul,Nat.testBit_two_pow]
  by_cases hj:i=j
  ·subst hj; simp [h]
  ·simp [hj]
theorem bit63 (b:BitVec 64):((b &&& BitVec.ofInt 64 9223372036854775808).toNat != 0)=decide (b.toNat≥9223372036854775808):=by
 have hb:=b.isLt
 have e:(BitVec.ofInt 64 9223372036854775808).toNat=2 ^ 63:=by decide
 rw [BitVec.toNat_and,e,and_pow,Nat.testBit_eq_decide_div_mod_eq]
 by_cases h:b.toNat≥9223372036854775808
 ·have h2:b.toNat / 2 ^ 63 % 2=1:=by omega
  rw [decide_eq_true h2,decide_eq_true h]
  decide
 ·have h2:¬ b.toNat / 2 ^ 63 % 2=1:=by omega
  rw [decide_eq_false h2,decide_eq_false h]
  decide
theorem bit62 (b:BitVec 64):(b &&& ~~~ BitVec.ofInt 64 4611686018427387904).toNat=if b.toNat / 4611686018427387904 % 2=1 then b.toNat - 4611686018427387904 else b.toNat:=by
 generalize hc:BitVec.ofInt 64 4611686018427387904=c
 have e:c.toNat=2 ^ 62:=by rw [← hc]; decide
 have h1:(b &&& ~~~c)+(b &&& c)=b:=by
  rw [BitVec.add_eq_or_of_and_eq_zero]
  ·ext i
   simp
   cases b[i] <;> cases c[i] <;> rfl
  ·ext i
   simp
   cases b[i] <;> cases c[i] <;> simp
 have h2:=congrArg BitVec.toNat h1
 rw [BitVec.toNat_add] at h2
 have hq:(b &&& c).toNat=(b.toNat.testBit 62).toNat * 2 ^ 62:=by rw [BitVec.toNat_and,e,and_pow]
 have hp:(b &&& ~~~c).toNat≤b.toNat:=by rw [BitVec.toNat_and]; exact Nat.and_le_left
 have hb:=b.isLt
 rw [Nat.testBit_eq_decide_div_mod_eq] at hq
 by_cases h:b.toNat / 4611686018427387904 % 2=1
 ·have h3:b.toNat / 2 ^ 62 % 2=1:=h
  rw [decide_eq_true h3] at hq
  have hq2:(b &&& c).toNat=4611686018427387904:=hq
  rw [if_pos h]
  omega
 ·have h3:¬ b.toNat / 2 ^ 62 % 2=1:=h
  rw [decide_eq_false h3] at hq
  have hq2:(b &&& c).toNat=0:=by rw [hq]; decide
  rw [if_neg h]
  omega
theorem valid_is {x:Int} (h0:0≤x) (h1:x<18446744073709551616):handle_Valid.f x=some (decide (x≥9223372036854775808)):=by
 have key:∀ n:Nat,n<18446744073709551616→((IntKind.wrap .u64 (n:Int)) != 0)=(n != 0):=fun n hn=>by
  rw [wu64 (by omega) (by omega),Bool.eq_iff_iff]
  simp
 have e:=ofInt_nat h0 h1
 have e2:decide ((BitVec.ofInt 64 x).toNat≥9223372036854775808)=decide (x≥9223372036854775808):=by
  rw [Bool.eq_iff_iff,decide_eq_true_eq,decide_eq_true_eq]; omega
 exact congrArg some ((key _ (BitVec.isLt _)).trans ((bit63 _).trans e2))
theorem plF_is {x:Int} (h0:0≤x) (h1:x<18446744073709551616):plF x=if x / 4611686018427387904 % 2=1 then x - 4611686018427387904 else x:=by
 have key:∀ m:Nat,m<18446744073709551616→(some (IntKind.wrap .u64 (m:Int))).getD 0=(m:Int):=fun n hn=>wu64 (by omega) (by omega)
 have e:=ofInt_nat h0 h1
 refine (key _ (BitVec.isLt _)).trans ?_
 refine (congrArg (fun n:Nat=>(n:Int)) (bit62 (BitVec.ofInt 64 x))).trans ?_
 generalize (BitVec.ofInt 64 x).toNat=n at e
 subst e
 by_cases h:n / 4611686018427387904 % 2=1
 ·rw [if_pos (show (n:Int) / 4611686018427387904 % 2=1 by omega)]
  simp only [h,if_true]
  omega
 ·rw [if_neg (show ¬ (n:Int) / 4611686018427387904 % 2=1 by omega)]
  simp only [h,if_false]
theorem ref_plain {x:Int} (h0:0≤x) (h1:x<18446744073709551616):sr01_Plain.f x=some (plF x):=by
 unfold sr01_Plain.f sr01_Marked.f
 rw [plF_is h0 h1,Int.tdiv_eq_ediv_of_nonneg h0,wu64 (n:=x / 4611686018427387904) (by omega) (by omega),Int.tmod_eq_emod_of_nonneg (by omega)]
 simp only [Option.bind_some]
 by_cases h:x / 4611686018427387904 % 2=1
 ·rw [if_pos h,h,if_pos (by decide),wu64 (by omega) (by omega)]
 ·rw [if_neg h,if_neg (by simpa using h)]
theorem ref_index {x:Int} (h0:0≤x):sr01_Index.f x=some (x % 4294967296):=by
 unfold sr01_Index.f
 rw [Int.tmod_eq_emod_of_nonneg h0,wi64 (by omega) (by omega)]
section
variable {T S C H K V L:Int} {l:List Int}
theorem nm_is {x:Int} (h0:0≤x) (h1:x<18446744073709551616):nmF T S C H K V L l x=(decide (x≥9223372036854775808) && decide (x % 4294967296≥1) && decide (x % 4294967296≤C)):=by
 unfold nmF sw_names.f
 rw [valid_is h0 h1]
 simp only [Option.bind_some]
 by_cases h2:x≥9223372036854775808
 ·rw [decide_eq_true h2]
  by_cases h3:x % 4294967296≥1
  ·rw [decide_eq_true h3]; simp [h3]
  ·rw [decide_eq_false h3]; simp [h3]
 ·rw [decide_eq_false h2]; simp
theorem ref_at (hr:R7 T S C H K V L) (hl:(l.length:Int)=lenI T S C H) {i f:Int} (hf:isF C H i f=true):sr21_at.f T S C H K V L l i f=some (atF T S C H K V L l i f):=by
 obtain ⟨h1,h2,h3,h4⟩:=isF_iff.1 hf
 have hc:=cells hr h1 h2 h3 h4
 unfold sr21_at.f atF
 rw [ref04_Cell_is,r7_iff.2 hr,hf,at_some hr hl hf]
 simp only [Bool.and_self,if_true,Option.bind_some]
 rw [if_pos hc.1,if_pos (by rw [hl]; exact hc.2.1)]
 rfl
theorem rd_u64 (hu:∀ x∈l,0≤x∧x<18446744073709551616) (j:Int):0≤rd l j∧rd l j<18446744073709551616:=by
 unfold rd
 rw [List.getD_eq_getElem?_getD]
 cases e:l[j.toNat]? with
 | none=>exact ⟨Int.le_refl _,by decide⟩
 | some v=>exact hu v (List.mem_of_getElem? e)
theorem at_u64 (hr:R7 T S C H K V L) (hl:(l.length:Int)=lenI T S C H) (hu:∀ x∈l,0≤x∧x<18446744073709551616) {i f:Int} (hf:isF C H i f=true):0≤atF T S C H K V L l i f∧atF T S C H K V L l i f<18446744073709551616:=by
 unfold atF
 rw [at_some hr hl hf]
 exact rd_u64 hu _
end
theorem u64_of {l:List Int} (hw:l.length≤maxLen∧∀ x∈l,(Lit.int .u64 x).wf=true):∀ x∈l,0≤x∧x<18446744073709551616:=fun x hx=>by
 have h:IntKind.u64.min≤x∧x≤IntKind.u64.max:=by simpa [Lit.wf] using hw.2 x hx
 have e:IntKind.u64.min=0:=by decide
 have e2:IntKind.u64.max=18446744073709551615:=by decide
 omega
theorem drop_cons' {α:Type} {l:List α} {i:Nat} {x:α} {r:List α} (h:l.drop i=x :: r):i<l.length∧l[i]?=some x∧l.drop (i+1)=r:=by
 have h1:i<l.length:=by
  rcases Nat.lt_or_ge i l.length with h1 | h1
  ·exact h1
  ·rw [List.drop_eq_nil_of_le h1] at h; cases h
 have h2:=List.drop_eq_getElem_cons h1
 rw [h] at h2
 injection h2 with h3 h4
 exact ⟨h1,by rw [List.getElem?_eq_getElem h1,h3],h4.symm⟩
theorem bit0 (b:BitVec 64):(b &&& BitVec.ofInt 64 1).toNat=b.toNat % 2:=by
 have e:(BitVec.ofInt 64 1).toNat=2 ^ 0:=by decide
 rw [BitVec.toNat_and,e,and_pow,Nat.testBit_eq_decide_div_mod_eq]
 by_cases h:b.toNat % 2=1
 ·rw [decide_eq_true (show b.toNat / 2 ^ 0 % 2=1 by simpa using h),h]; decide
 ·rw [decide_eq_false (show ¬ b.toNat / 2 ^ 0 % 2=1 by simpa using h),show b.toNat % 2=0 by omega]; decide
theorem dead_is {x:Int} (h0:0≤x) (h1:x<18446744073709551616):slot_Dead.f x=some (decide (x % 2=1)):=by
 have key:∀ n:Nat,n<18446744073709551616→((IntKind.wrap .u64 (n:Int)) == 1)=decide (n=1):=fun n hn=>by
  rw [wu64 (by omega) (by omega),Bool.eq_iff_iff]
  simp
  omega
 have e:=ofInt_nat h0 h1
 have e2:decide ((BitVec.ofInt 64 x &&& BitVec.ofInt 64 1).toNat=1)=decide (x % 2=1):=by
  rw [bit0,Bool.eq_iff_iff,decide_eq_true_eq,decide_eq_true_eq]; omega
 exact congrArg some ((key _ (BitVec.isLt _)).trans e2)
theorem ref_dead {x:Int} (h0:0≤x):sr02_Dead.f x=some (decide (x % 2=1)):=by
 unfold sr02_Dead.f
 rw [Int.tmod_eq_emod_of_nonneg h0]
 rfl
theorem bit62m (b:BitVec 64):((b &&& BitVec.ofInt 64 4611686018427387904).toNat != 0)=decide (b.toNat / 4611686018427387904 % 2=1):=by
 have e:(BitVec.ofInt 64 4611686018427387904).toNat=2 ^ 62:=by decide
 rw [BitVec.toNat_and,e,and_pow,Nat.testBit_eq_decide_div_mod_eq]
 by_cases h:b.toNat / 4611686018427387904 % 2=1
 ·rw [decide_eq_true (show b.toNat / 2 ^ 62 % 2=1 from h)]
  decide
 ·rw [decide_eq_false (show ¬ b.toNat / 2 ^ 62 % 2=1 from h)]
  decide
theorem marked_is {x:Int} (h0:0≤x) (h1:x<18446744073709551616):handle_Marked.f x=some (decide (x / 4611686018427387904 % 2=1)):=by
 have key:∀ n:Nat,n<18446744073709551616→((IntKind.wrap .u64 (n:Int)) != 0)=(n != 0):=fun n hn=>by
  rw [wu64 (by omega) (by omega),Bool.eq_iff_iff]
  simp
 have e:=ofInt_nat h0 h1
 have e2:decide ((BitVec.ofInt 64 x).toNat / 4611686018427387904 % 2=1)=decide (x / 4611686018427387904 % 2=1):=by
  rw [Bool.eq_iff_iff,decide_eq_true_eq,decide_eq_true_eq]; omega
 exact congrArg some ((key _ (BitVec.isLt _)).trans ((bit62m _).trans e2))
theorem rd_set {xs:List Int} {n:Nat} (hn:n<xs.length) (v j:Int):rd (xs.set n v) j=if j.toNat=n then v else rd xs j:=by
 unfold rd
 rw [List.getD_eq_getElem?_getD,List.getD_eq_getElem?_getD,List.getElem?_set]
 by_cases h:n=j.toNat
 ·rw [if_pos h,if_pos h.symm,if_pos (h ▸ hn)]
  rfl
 ·rw [if_neg h,if_neg (fun e=>h e.symm)]
theorem cell_inj {T S C H i f a b:Int} (h1:isF C H i f=true) (h2:isF C H a b=true) (e:cellI T S H i f=cellI T S H a b):i=a∧f=b:=by
 rw [isF_iff] at h1 h2
 unfold cellI at e
 have e1:i * (6+H)+f=a * (6+H)+b:=by omega
 have hW:0<6+H:=by omega
 have e2:(i * (6+H)+f) % (6+H)=f:=by
  rw [Int.add_comm,Int.add_mul_emod_self_right]
  exact Int.emod_eq_of_lt (by omega) (by omega)
 have e3:(a * (6+H)+b) % (6+H)=b:=by
  rw [Int.add_comm,Int.add_mul_emod_self_right]
  exact Int.emod_eq_of_lt (by omega) (by omega)
 have e4:f=b:=by rw [← e2,← e3,e1]
 refine ⟨?_,e4⟩
 have e5:i * (6+H)=a * (6+H):=by omega
 exact Int.eq_of_mul_eq_mul_right (by omega) e5
end Go.Eng
namespace Go.Eng
open Go.Proofs Go.RowKit Go.Proofs.YtgbcnokeaaabfaaGreatW.PrintWords
set_option linter.unusedVariables false
set_option linter.unusedSimpArgs false
theorem or1 {g:Int} (h0:0≤g) (h1:g<1073741824):slot_word_packed.f 1 g=some (4 * g+1):=by
 have key:∀ n:Nat,n<1073741824→(IntKind.wrap .u64 (BitVec.ofInt (IntKind.bits .u64) (4 * (n:Int)) ||| BitVec.ofInt (IntKind.bits .u64) 1).toNat:Int)=4 * (n:Int)+1:=by
  intro n hn
  have e:(BitVec.ofInt 64 (4 * (n:Int)) ||| BitVec.ofInt 64 1).toNat=4 * n+1:=by
   rw [BitVec.toNat_or,show (4 * (n:Int))=((4 * n:Nat):Int) by omega,BitVec.ofInt_natCast,BitVec.toNat_ofNat,Nat.mod_eq_of_lt (by omega),show (BitVec.ofInt 64 1).toNat=1 by decide]
   have:=Nat.shiftLeft_add_eq_or_of_lt (show 1<2 ^ 2 by decide) n
   rw [Nat.shiftLeft_eq,show n * 2 ^ 2=4 * n by omega] at this
   exact this.symm
  rw [show IntKind.bits .u64=64 from rfl,e,wu64 (by omega) (by omega)]
  omega
 unfold slot_word_packed.f
 have e2:((2:Int) ^ (min (Int.toNat 2) (IntKind.bits .u64)))=4:=by decide
 rw [wu64 h0 (by omega),e2,wu64 (n:=g * 4) (by omega) (by omega),show IntKind.wrap .u64 1=1 by decide,show g * 4=4 * ((g.toNat:Nat):Int) by omega,key g.toNat (by omega)]
 congr 2
 omega
theorem meta_is {g:Int} (h0:0≤g) (h1:g<1073741824):slot_Meta.f 1 g=some (4 * g+1,true):=by
 have e:slot_word_right.f 1 g=some true:=by
  unfold slot_word_right.f
  rw [to_eq 1 0 2 (by decide),to_eq g 0 1073741823 (by decide),decide_eq_true (show 0≤g from h0),decide_eq_true (show g≤1073741823 by omega)]
  rfl
 unfold slot_Meta.f
 rw [e,or1 h0 h1]
 rfl
theorem ref_taken {g:Int} (h0:0≤g) (h1:g<1073741824):sr02_Taken.f g=some (4 * g+1):=by
 unfold sr02_Taken.f sr02_Meta.f
 rw [if_neg (by decide),if_neg (by decide),if_neg (by omega),decide_eq_false (show ¬ g > 1073741823 by omega)]
 simp only [Option.bind_some,Bool.false_eq_true,if_false]
 rw [wi64 (n:=4 * g) (by omega) (by omega),wi64 (by omega) (by omega),wu64 (by omega) (by omega)]
theorem ref_gen {x:Int} (h0:0≤x) (h1:x<18446744073709551616):sr01_Gen.f x=some (x / 4294967296 % 1073741824):=by
 unfold sr01_Gen.f
 rw [Int.tdiv_eq_ediv_of_nonneg h0,wu64 (by omega) (by omega),Int.tmod_eq_emod_of_nonneg (by omega),wi64 (by omega) (by omega)]
theorem ref_marked {x:Int} (h0:0≤x) (h1:x<18446744073709551616):sr01_Marked.f x=some (decide (x / 4611686018427387904 % 2=1)):=by
 unfold sr01_Marked.f
 rw [Int.tdiv_eq_ediv_of_nonneg h0,wu64 (by omega) (by omega),Int.tmod_eq_emod_of_nonneg (by omega)]
 rfl
theorem ref_valid (x:Int):sr01_Valid.f x=some (decide (x≥9223372036854775808)):=rfl
def mks (f:Int→Bool):Nat→Int→Bool
 | 0,_=>true
 | n+1,x=>f x && mks f n (x+1)
theorem mks_succ (f:Int→Bool) (n:Nat) (x:Int):mks f (n+1) x=(f x && mks f n (x+1)):=rfl
theorem index_is {hs:List Int} (hb:hs.length≤1000) {a:Int}:∀ (rest:List Int) (k i:Nat),hs.drop i=rest→rest.length<k→∃ j:Int,slices_Index_uint64_uint64.l0 k hs a (i:Int)=some j∧decide (j≥0)=rest.contains a
 | rest,0,i,_,h=>absurd h (by omega)
 | [],k+1,i,hd,_=>by
  have h1:hs.length≤i:=List.drop_eq_nil_iff.1 hd
  exact ⟨-1,by rw [slices_Index_uint64_uint64.l0,if_neg (by omega)],rfl⟩
 | r :: rest,k+1,i,hd,hk=>by
  obtain ⟨h1,h2,h3⟩:=drop_cons' hd
  have e1:rd hs (i:Int)=r:=by unfold rd; rw [Int.toNat_natCast,List.getD_eq_getElem?_getD,h2]; rfl
  have e2:IntKind.wrap .i64 ((i:Int)+1)=((i+1:Nat):Int):=by rw [wi64 (by omega) (by omega)]; rfl
  rw [List.length_cons] at hk
  rw [slices_Index_uint64_uint64.l0,if_pos (by omega),if_pos (by omega),e1,e2]
  by_cases h:a=r
  ·rw [if_pos h]
   exact ⟨i,rfl,by rw [decide_eq_true (by omega),h]; simp⟩
  ·rw [if_neg h]
   obtain ⟨j,h4,h5⟩:=index_is hb rest k (i+1) h3 (by omega)
   exact ⟨j,h4,by rw [h5]; simp [h]⟩
theorem contains_is {hs:List Int} (hb:hs.length≤900) (a:Int) {k:Nat} (hk:901≤k):slices_Contains_uint64_uint64.f k hs a=some (hs.contains a):=by
 obtain ⟨j,e,h⟩:=index_is (a:=a) (by omega) hs k 0 rfl (by omega)
 unfold slices_Contains_uint64_uint64.f slices_Index_uint64_uint64.f
 rw [show (0:Int)=((0:Nat):Int) from rfl,e]
 exact congrArg some h
theorem in_l0 {hs:List Int} (hb:hs.length≤1000) {a:Int}:∀ (rest:List Int) (k i:Nat),hs.drop i=rest→rest.length<k→sr21_in.l0 k hs a (i:Int)=some (rest.contains a)
 | rest,0,i,_,h=>absurd h (by omega)
 | [],k+1,i,hd,_=>by
  have h1:hs.length≤i:=List.drop_eq_nil_iff.1 hd
  rw [sr21_in.l0,if_neg (by omega)]
  rfl
 | r :: rest,k+1,i,hd,hk=>by
  obtain ⟨h1,h2,h3⟩:=drop_cons' hd
  have e1:rd hs (i:Int)=r:=by unfold rd; rw [Int.toNat_natCast,List.getD_eq_getElem?_getD,h2]; rfl
  have e2:IntKind.wrap .i64 ((i:Int)+1)=((i+1:Nat):Int):=by rw [wi64 (by omega) (by omega)]; rfl
  rw [List.length_cons] at hk
  rw [sr21_in.l0,if_pos (by omega),if_pos (by omega),e1,e2,in_l0 hb rest k (i+1) h3 (by omega)]
  by_cases h:r=a
  ·rw [if_pos h,h]; simp
  ·rw [if_neg h,List.contains_cons,show (a == r)=false from beq_eq_false_iff_ne.2 (fun e=>h e.symm)]
   rfl
theorem in_is {hs:List Int} (hb:hs.length≤900) (a:Int) {k:Nat} (hk:901≤k):sr21_in.f k hs a=some (hs.contains a) :=
 in_l0 (by omega) hs k 0 rfl (by omega)
def ylE (C:Int) (nm:Int→Bool) (nx:Int→Int):Nat→Int→Int→Int
 | 0,_,x=>x
 | m+1,j,x=>if j≤C then (if nm x=true then ylE C nm nx m (j+1) (nx x) else x) else x
section
variable {T S C H K V L:Int} {l:List Int}
def tkB (T S C H K V L:Int) (l:List Int) (h:Int):Bool:=atF T S C H K V L l (h % 4294967296) 0 == 4 * (h / 4294967296 % 1073741824)+1
def mkB (T S C H K V L:Int) (l:List Int) (i lev:Int):Bool:=decide (atF T S C H K V L l i (6+lev) / 4611686018427387904 % 2=1)
def ddB (T S C H K V L:Int) (l:List Int) (i:Int):Bool:=decide (atF T S C H K V L l i 2 % 2=1)
def lvs (T S C H K V L:Int) (l:List Int) (lev:Int):List Int:=(lvlF T S C H K V L l lev).map (·.2)
def nxF (T S C H K V L:Int) (l:List Int) (lev x:Int):Int:=atF T S C H K V L l (x % 4294967296) (6+lev)
def endF (T S C H K V L:Int) (l:List Int) (lev:Int):Int:=ylE C (nmF T S C H K V L l) (nxF T S C H K V L l lev) (C.toNat+1) 0 (atF T S C H K V L l 0 (6+lev))
def ndB (T S C H K V L:Int) (l:List Int) (h lev:Int):Bool:=tkB T S C H K V L l h && (decide (atF T S C H K V L l (h % 4294967296) 4 > lev) && (decide (atF T S C H K V L l (h % 4294967296) 4≤H) && (if mkB T S C H K V L l (h % 4294967296) lev=true then mks (mkB T S C H K V L l (h % 4294967296)) (atF T S C H K V L l (h % 4294967296) 4 - (lev+1)).toNat (lev+1) && ddB T S C H K V L l (h % 4294967296) else (lev == 0 || (lvs T S C H K V L l (lev - 1)).contains h))))
structure Wd (T S C H K V L:Int) (l:List Int):Prop where
 r:R7 T S C H K V L
 len:(l.length:Int)=lenI T S C H
 u:∀ x∈l,0≤x∧x<18446744073709551616
theorem Wd.at_ (hw:Wd T S C H K V L l) {i f:Int} (h0:0≤i) (h1:i≤C) (h2:0≤f) (h3:f<6+H):sw_at.f T S C H K V L l i f=some (atF T S C H K V L l i f):=at_eq hw.r hw.len (isF_iff.2 ⟨h0,h1,h2,h3⟩)
theorem Wd.rat (hw:Wd T S C H K V L l) {i f:Int} (h0:0≤i) (h1:i≤C) (h2:0≤f) (h3:f<6+H):sr21_at.f T S C H K V L l i f=some (atF T S C H K V L l i f):=ref_at hw.r hw.len (isF_iff.2 ⟨h0,h1,h2,h3⟩)
theorem Wd.au (hw:Wd T S C H K V L l) {i f:Int} (h0:0≤i) (h1:i≤C) (h2:0≤f) (h3:f<6+H):0≤atF T S C H K V L l i f∧atF T S C H K V L l i f<18446744073709551616:=at_u64 hw.r hw.len hw.u (isF_iff.2 ⟨h0,h1,h2,h3⟩)
theorem Wd.ok (hw:Wd T S C H K V L l) {lev:Int} (h0:0≤lev) (h1:lev<H):okB T S C H K V L l lev=true:=okB_iff.2 ⟨hw.r,hw.len,h0,h1,fun x hx=>(hw.u x hx).1⟩
theorem Wd.len_ (hw:Wd T S C H K V L l) {lev:Int} (h0:0≤lev) (h1:lev<H):(lvs T S C H K V L l lev).length≤65:=by
 unfold lvs
 rw [List.length_map]
 exact lvl_len (hw.ok h0 h1)
theorem plF_u (x:Int):0≤plF x∧plF x<18446744073709551616:=by
 have key:∀ n:Nat,n<18446744073709551616→0≤(some (IntKind.wrap .u64 (n:Int))).getD 0∧(some (IntKind.wrap .u64 (n:Int))).getD 0<18446744073709551616:=fun n hn=>by
  rw [wu64 (by omega) (by omega)]
  refine ⟨Int.natCast_nonneg n,?_⟩
  show (n:Int)<18446744073709551616
  omega
 exact key _ (BitVec.isLt _)
theorem Wd.mem (hw:Wd T S C H K V L l) {lev h:Int} (hm:h∈lvs T S C H K V L l lev):0≤h∧h<18446744073709551616∧1≤h % 4294967296∧h % 4294967296≤C:=by
 unfold lvs at hm
 obtain ⟨p,hp,rfl⟩:=List.mem_map.1 hm
 have h1:=lvl_mem hp
 obtain ⟨_,_,y,_,h4⟩:=ylF_mem _ _ _ (Int.le_refl 0) p hp
 have:=plF_u y
 rw [← h4] at this
 exact ⟨this.1,this.2,h1.2.2.1,h1.2.2.2⟩
theorem Wd.level (hw:Wd T S C H K V L l) {k:Nat} (hk:1000≤k) {lev:Int} (h0:0≤lev) (h1:lev<H):shape_Level.f k T S C H K V L l lev=some (lvs T S C H K V L l lev):=by
 rw [Level_is hk T S C H K V L l (fun x hx=>(hw.u x hx).1) lev,if_pos (hw.ok h0 h1)]
 rfl
theorem Wd.rlevel_l0 (hw:Wd T S C H K V L l) {lev:Int} (h0:0≤lev) (h1:lev<H):∀ (m k:Nat) (x:Int) (xs:List Int),C+1 - xs.length=m→m<k→0≤x→x<18446744073709551616 →
  sr21_Level.l0 k T S C H K V L l lev x xs=some (xs ++ (ylF C (nmF T S C H K V L l) plF (nxF T S C H K V L l lev) m xs.length x).map (·.2),ylE C (nmF T S C H K V L l) (nxF T S C H K V L l lev) m xs.length x)
 | 0,0,x,xs,_,h,_,_=>absurd h (by decide)
 | m+1,0,x,xs,_,h,_,_=>absurd h (by omega)
 | 0,k+1,x,xs,hm,_,_,_=>by rw [sr21_Level.l0,if_neg (by omega)]; simp [ylF,ylE]
 | m+1,k+1,x,xs,hm,hk,hx0,hx1=>by
  have hC:=hw.r.c
  have hH:=hw.r.h
  have ey:ylF C (nmF T S C H K V L l) plF (nxF T S C H K V L l lev) (m+1) xs.length x=if nmF T S C H K V L l x=true then ((xs.length:Int),plF x) :: ylF C (nmF T S C H K V L l) plF (nxF T S C H K V L l lev) m (xs.length+1) (nxF T S C H K V L l lev x) else []:=by rw [ylF,if_pos (by omega)]
  have ee:ylE C (nmF T S C H K V L l) (nxF T S C H K V L l lev) (m+1) xs.length x=if nmF T S C H K V L l x=true then ylE C (nmF T S C H K V L l) (nxF T S C H K V L l lev) m (xs.length+1) (nxF T S C H K V L l lev x) else x:=by rw [ylE,if_pos (by omega)]
  rw [sr21_Level.l0,if_pos (by omega),ref_index hx0,ref_valid,ey,ee,nm_is hx0 hx1,ref_plain hx0 hx1]
  simp only [Option.bind_some]
  by_cases h2:x≥9223372036854775808
  ·rw [decide_eq_true h2]
   by_cases h3:x % 4294967296<1
   ·rw [decide_eq_false (show ¬ x % 4294967296≥1 by omega)]
    simp [h3]
   ·rw [decide_eq_true (show x % 4294967296≥1 by omega)]
    by_cases h4:x % 4294967296 > C
    ·rw [decide_eq_false (show ¬ x % 4294967296≤C by omega)]
     simp [h3,h4]
    ·rw [decide_eq_true (show x % 4294967296≤C by omega)]
     have hb:=hw.au (i:=x % 4294967296) (f:=6+lev) (by omega) (by omega) (by omega) (by omega)
     have ih:=hw.rlevel_l0 h0 h1 m k (atF T S C H K V L l (x % 4294967296) (6+lev)) (xs ++ [plF x]) (by rw [List.length_append,List.length_singleton]; omega) (by omega) hb.1 hb.2
     rw [if_pos rfl,if_neg h3,decide_eq_false h4]
     simp only [Option.bind_some,Bool.false_eq_true,if_false]
     rw [if_pos (by omega),wi64 (n:=6+lev) (by omega) (by omega),hw.rat (by omega) (by omega) (by omega) (by omega)]
     simp only [Option.bind_some]
     rw [ih,List.length_append,List.length_singleton]
     simp [nxF]
  ·rw [decide_eq_false h2]
   simp
theorem nx_fun (hw:Wd T S C H K V L l) {lev:Int} (h0:0≤lev) (h1:lev<H):(fun x=>atF T S C H K V L l (x % 4294967296) (IntKind.wrap .i64 (6+lev)))=nxF T S C H K V L l lev:=by
 have hH:=hw.r.h
 rw [wi64 (n:=6+lev) (by omega) (by omega)]
 rfl
theorem Wd.lv (hw:Wd T S C H K V L l) {lev:Int} (h0:0≤lev) (h1:lev<H):lvlF T S C H K V L l lev=ylF C (nmF T S C H K V L l) plF (nxF T S C H K V L l lev) (C.toNat+1) 0 (atF T S C H K V L l 0 (6+lev)):=by
 have hH:=hw.r.h
 unfold lvlF
 rw [nx_fun hw h0 h1,wi64 (n:=6+lev) (by omega) (by omega)]
theorem Wd.rwhole (hw:Wd T S C H K V L l):sr21_whole.f T S C H K V L l=some true:=by
 unfold sr21_whole.f
 rw [ref04_Right_is,ref04_Len_is,r7_iff.2 hw.r]
 simp only [Option.bind_some,if_true]
 rw [show ((l.length:Int) == lenI T S C H)=true by simpa using hw.len]
theorem Wd.rlevel (hw:Wd T S C H K V L l) {k:Nat} (hk:100≤k) {lev:Int} (h0:0≤lev) (h1:lev<H):sr21_Level.f k T S C H K V L l lev=some (lvs T S C H K V L l lev,endF T S C H K V L l lev):=by
 have hC:=hw.r.c
 have hH:=hw.r.h
 have hb:=hw.au (i:=0) (f:=6+lev) (by omega) (by omega) (by omega) (by omega)
 unfold sr21_Level.f
 rw [hw.rwhole]
 simp only [Option.bind_some,if_true]
 rw [if_neg (by omega),decide_eq_false (show ¬ lev≥H by omega)]
 simp only [Option.bind_some,Bool.false_eq_true,if_false]
 rw [wi64 (n:=6+lev) (by omega) (by omega),hw.rat (by omega) (by omega) (by omega) (by omega)]
 simp only [Option.bind_some]
 rw [hw.rlevel_l0 h0 h1 (C.toNat+1) k _ [] (by simp only [List.length_nil]; omega) (by omega) hb.1 hb.2]
 unfold lvs
 rw [hw.lv h0 h1]
 rfl
theorem Wd.taken (hw:Wd T S C H K V L l) {h:Int} (h1:0≤h % 4294967296) (h2:h % 4294967296≤C):sw_taken.f T S C H K V L l h=some (tkB T S C H K V L l h):=by
 have hH:=hw.r.h
 unfold sw_taken.f
 rw [meta_is (by omega) (by omega),hw.at_ h1 h2 (by omega) (by omega)]
 rfl
theorem Wd.marked (hw:Wd T S C H K V L l) {h lev:Int} (h1:0≤h % 4294967296) (h2:h % 4294967296≤C) (h3:0≤lev) (h4:lev<H):sw_marked.f T S C H K V L l h lev=some (mkB T S C H K V L l (h % 4294967296) lev):=by
 have hH:=hw.r.h
 have hb:=hw.au (i:=h % 4294967296) (f:=6+lev) h1 h2 (by omega) (by omega)
 unfold sw_marked.f
 rw [wi64 (n:=6+lev) (by omega) (by omega),hw.at_ h1 h2 (by omega) (by omega)]
 simp only [Option.bind_some]
 rw [marked_is hb.1 hb.2]
 rfl
theorem Wd.rmarked (hw:Wd T S C H K V L l) {i lev:Int} (h1:0≤i) (h2:i≤C) (h3:0≤lev) (h4:lev<H):sr21_marked.f T S C H K V L l i lev=some (mkB T S C H K V L l i lev):=by
 have hH:=hw.r.h
 have hb:=hw.au (i:=i) (f:=6+lev) h1 h2 (by omega) (by omega)
 unfold sr21_marked.f
 rw [wi64 (n:=6+lev) (by omega) (by omega),hw.rat h1 h2 (by omega) (by omega)]
 simp only [Option.bind_some]
 rw [ref_marked hb.1 hb.2]
 rfl
theorem Wd.dead (hw:Wd T S C H K V L l) {i:Int} (h1:0≤i) (h2:i≤C):((sw_at.f T S C H K V L l i 2).bind fun t=>slot_Dead.f t)=some (ddB T S C H K V L l i):=by
 have hH:=hw.r.h
 have hb:=hw.au (i:=i) (f:=2) h1 h2 (by omega) (by omega)
 rw [hw.at_ h1 h2 (by omega) (by omega)]
 simp only [Option.bind_some]
 rw [dead_is hb.1 hb.2]
 rfl
theorem Wd.rdead (hw:Wd T S C H K V L l) {i:Int} (h1:0≤i) (h2:i≤C):((sr21_at.f T S C H K V L l i 2).bind fun t=>sr02_Dead.f t)=some (ddB T S C H K V L l i):=by
 have hH:=hw.r.h
 have hb:=hw.au (i:=i) (f:=2) h1 h2 (by omega) (by omega)
 rw [hw.rat h1 h2 (by omega) (by omega)]
 simp only [Option.bind_some]
 rw [ref_dead hb.1]
 rfl
theorem Wd.node_l0 (hw:Wd T S C H K V L l) {h t:Int} (h1:0≤h % 4294967296) (h2:h % 4294967296≤C) (ht0:0≤t) (ht:t≤H):∀ (m k:Nat) (x:Int),0≤x→(t - x).toNat=m→m<k→sw_node.l0 k T S C H K V L l h t x=some (mks (mkB T S C H K V L l (h % 4294967296)) m x && ddB T S C H K V L l (h % 4294967296))
 | m,0,x,_,_,h=>absurd h (by omega)
 | 0,k+1,x,hx,hm,hk=>by
  have hH:=hw.r.h
  have hd:=hw.dead h1 h2
  rw [sw_node.l0,if_neg (by rw [wi64 (n:=t) (by omega) (by omega)]; omega)]
  have e:((sw_at.f T S C H K V L l (h % 4294967296) 2).bind fun t110_=>(slot_Dead.f t110_).bind fun t112_=>some t112_)=some (ddB T S C H K V L l (h % 4294967296)):=by
   rw [← hd]; rfl
  rw [e]
  rfl
 | m+1,k+1,x,hx,hm,hk=>by
  have hH:=hw.r.h
  rw [sw_node.l0,if_pos (by rw [wi64 (n:=t) (by omega) (by omega)]; omega),hw.marked h1 h2 hx (by omega),wi64 (n:=x+1) (by omega) (by omega)]
  simp only [Option.bind_some]
  rw [hw.node_l0 h1 h2 ht0 ht m k (x+1) (by omega) (by omega) (by omega),mks_succ]
  cases mkB T S C H K V L l (h % 4294967296) x <;> rfl
end
end Go.Eng
namespace Go.Eng
open Go.Proofs Go.RowKit Go.Proofs.YtgbcnokeaaabfaaGreatW.PrintWords
set_option linter.unusedVariables false
set_option linter.unusedSimpArgs false
section
variable {T S C H K V L:Int} {l:List Int}
theorem Wd.node (hw:Wd T S C H K V L l) {h lev:Int} (hx0:0≤h) (hx1:h<18446744073709551616) (h1:1≤h % 4294967296) (h2:h % 4294967296≤C) (h3:0≤lev) (h4:lev<H) {k:Nat} (hk:1500≤k):sw_node.f k T S C H K V L l h lev=some (ndB T S C H K V L l h lev):=by
 have hH:=hw.r.h
 have hb:=hw.au (i:=h % 4294967296) (f:=4) (by omega) h2 (by omega) (by omega)
 unfold sw_node.f ndB
 rw [hw.at_ (by omega) h2 (by omega) (by omega)]
 generalize atF T S C H K V L l (h % 4294967296) 4=t at hb
 simp only [Option.bind_some]
 rw [hw.taken (by omega) h2,wu64 (n:=lev) (by omega) (by omega),wu64 (n:=H) (by omega) (by omega)]
 simp only [Option.bind_some]
 cases tkB T S C H K V L l h with
 | false=>rfl
 | true =>
  rw [if_pos rfl]
  by_cases q1:t≤lev
  ·rw [if_pos q1,decide_eq_false (show ¬ t > lev by omega)]
   rfl
  ·rw [if_neg q1,decide_eq_true (show t > lev by omega)]
   by_cases q2:t > H
   ·rw [decide_eq_true q2,decide_eq_false (show ¬ t≤H by omega)]
    rfl
   ·rw [decide_eq_false q2,decide_eq_true (show t≤H by omega)]
    simp only [Option.bind_some,Bool.false_eq_true,if_false,Bool.true_and]
    rw [hw.marked (by omega) h2 h3 h4,wi64 (n:=lev+1) (by omega) (by omega),wi64 (n:=lev - 1) (by omega) (by omega)]
    simp only [Option.bind_some]
    cases mkB T S C H K V L l (h % 4294967296) lev with
    | true =>
     rw [if_pos rfl,if_pos rfl]
     exact hw.node_l0 (by omega) h2 (by omega) (by omega) _ k (lev+1) (by omega) rfl (by omega)
    | false =>
     simp only [Bool.false_eq_true,if_false]
     by_cases q3:lev=0
     ·rw [if_pos q3,q3]
      rfl
     ·have hlen:=hw.len_ (lev:=lev - 1) (by omega) (by omega)
      rw [if_neg q3,hw.level (by omega) (by omega) (by omega)]
      simp only [Option.bind_some]
      rw [contains_is (by omega) h (by omega),show (lev == 0)=false from beq_eq_false_iff_ne.2 q3]
      rfl
theorem Wd.rnode_l0 (hw:Wd T S C H K V L l) {i t:Int} (h1:0≤i) (h2:i≤C) (ht0:0≤t) (ht:t≤H):∀ (m k:Nat) (x:Int),0≤x→(t - x).toNat=m→m<k→sr21_node.l0 k T S C H K V L l i t x=some (mks (mkB T S C H K V L l i) m x && ddB T S C H K V L l i)
 | m,0,x,_,_,h=>absurd h (by omega)
 | 0,k+1,x,hx,hm,hk=>by
  have hH:=hw.r.h
  have hd:=hw.rdead h1 h2
  rw [sr21_node.l0,if_neg (by rw [wi64 (n:=t) (by omega) (by omega)]; omega)]
  have e:((sr21_at.f T S C H K V L l i 2).bind fun t131_=>(sr02_Dead.f t131_).bind fun t133_=>some t133_)=some (ddB T S C H K V L l i):=by
   rw [← hd]; rfl
  rw [e]
  rfl
 | m+1,k+1,x,hx,hm,hk=>by
  have hH:=hw.r.h
  rw [sr21_node.l0,if_pos (by rw [wi64 (n:=t) (by omega) (by omega)]; omega),hw.rmarked h1 h2 hx (by omega),wi64 (n:=x+1) (by omega) (by omega)]
  simp only [Option.bind_some]
  rw [hw.rnode_l0 h1 h2 ht0 ht m k (x+1) (by omega) (by omega) (by omega),mks_succ]
  cases mkB T S C H K V L l i x <;> rfl
theorem Wd.rneg (hw:Wd T S C H K V L l) (k:Nat):sr21_Level.f k T S C H K V L l (-1)=some ([],0):=by
 unfold sr21_Level.f
 rw [hw.rwhole]
 rfl
theorem Wd.rnode (hw:Wd T S C H K V L l) {h lev:Int} (hx0:0≤h) (hx1:h<18446744073709551616) (h1:1≤h % 4294967296) (h2:h % 4294967296≤C) (h3:0≤lev) (h4:lev<H) {k:Nat} (hk:1500≤k):sr21_node.f k T S C H K V L l h lev=some (ndB T S C H K V L l h lev):=by
 have hH:=hw.r.h
 have hb:=hw.au (i:=h % 4294967296) (f:=4) (by omega) h2 (by omega) (by omega)
 unfold sr21_node.f ndB
 rw [ref_index hx0]
 simp only [Option.bind_some]
 rw [hw.rat (by omega) h2 (by omega) (by omega),ref_gen hx0 hx1]
 simp only [Option.bind_some]
 rw [ref_taken (by omega) (by omega)]
 simp only [Option.bind_some]
 by_cases q0:atF T S C H K V L l (h % 4294967296) 0=4 * (h / 4294967296 % 1073741824)+1
 ·rw [if_pos q0,show tkB T S C H K V L l h=true from beq_iff_eq.2 q0,hw.rat (by omega) h2 (by omega) (by omega)]
  generalize atF T S C H K V L l (h % 4294967296) 4=t at hb
  simp only [Option.bind_some]
  rw [wu64 (n:=lev) (by omega) (by omega),wu64 (n:=H) (by omega) (by omega)]
  by_cases q1:t≤lev
  ·rw [if_pos q1,decide_eq_false (show ¬ t > lev by omega)]
   rfl
  ·rw [if_neg q1,decide_eq_true (show t > lev by omega)]
   by_cases q2:t > H
   ·rw [decide_eq_true q2,decide_eq_false (show ¬ t≤H by omega)]
    rfl
   ·rw [decide_eq_false q2,decide_eq_true (show t≤H by omega)]
    simp only [Option.bind_some,Bool.false_eq_true,if_false,Bool.true_and]
    rw [hw.rmarked (by omega) h2 h3 h4,wi64 (n:=lev - 1) (by omega) (by omega)]
    simp only [Option.bind_some]
    cases hm:mkB T S C H K V L l (h % 4294967296) lev with
    | true =>
     rw [if_pos rfl,if_pos rfl,hw.rnode_l0 (by omega) h2 (by omega) (by omega) ((t - (lev+1)).toNat+1) k lev h3 (by omega) (by omega),mks_succ,hm]
     rfl
    | false =>
     rw [if_neg (by decide),if_neg (by decide)]
     by_cases q3:lev=0
     ·rw [q3,show (0:Int) - 1 = -1 from rfl,hw.rneg k]
      rfl
     ·have hlen:=hw.len_ (lev:=lev - 1) (by omega) (by omega)
      rw [hw.rlevel (by omega) (by omega) (by omega)]
      simp only [Option.bind_some]
      rw [if_neg q3,in_is (by omega) h (by omega),show (lev == 0)=false from beq_eq_false_iff_ne.2 q3]
      rfl
 ·rw [if_neg q0,show tkB T S C H K V L l h=false from beq_eq_false_iff_ne.2 q0]
  rfl
def rlB (T S C H K V L:Int) (l:List Int) (lev:Int):Bool→Int→List Int→Bool
 | _,_,[]=>true
 | f,key,h :: t=>(f || decide (key<atF T S C H K V L l (h % 4294967296) 1)) && (ndB T S C H K V L l h lev && rlB T S C H K V L l lev false (atF T S C H K V L l (h % 4294967296) 1) t)
def rgB (T S C H K V L:Int) (l:List Int) (lev:Int):Bool:=!mkB T S C H K V L l 0 lev && (decide (((lvs T S C H K V L l lev).length:Int)≤C) && (!decide (endF T S C H K V L l lev≥9223372036854775808) && rlB T S C H K V L l lev true 0 (lvs T S C H K V L l lev)))
theorem Wd.right_rng (hw:Wd T S C H K V L l) {lev:Int} (h0:0≤lev) (h1:lev<H) {k:Nat} (hk:1500≤k):∀ (m:Nat) (j x key:Int),C+1 - j=m→0≤j→j≤C→0≤x→x<18446744073709551616 →
  rng (sw_right.b0 k T S C H K V L l lev) (ylF C (nmF T S C H K V L l) plF (nxF T S C H K V L l lev) m j x) (fun (x61_,x62_)=>(handle_Valid.f x62_).bind fun t140_=>some (!t140_)) (key,x)=some (decide (j+((ylF C (nmF T S C H K V L l) plF (nxF T S C H K V L l lev) m j x).length:Int)≤C) && (!decide (ylE C (nmF T S C H K V L l) (nxF T S C H K V L l lev) m j x≥9223372036854775808) && rlB T S C H K V L l lev (j == 0) key ((ylF C (nmF T S C H K V L l) plF (nxF T S C H K V L l lev) m j x).map (·.2))))
 | 0,j,x,key,hm,hj,hjC,_,_=>absurd hm (by omega)
 | m+1,j,x,key,hm,hj,hjC,hx0,hx1=>by
  have hC:=hw.r.c
  have hH:=hw.r.h
  rw [ylF,ylE,if_pos hjC,if_pos hjC]
  by_cases hn:nmF T S C H K V L l x=true
  ·rw [if_pos hn,if_pos hn]
   have hix:=names_ix hn
   have hp:=plF_u x
   have hpi:plF x % 4294967296=x % 4294967296:=plF_ix x
   have hbn:=hw.au (i:=x % 4294967296) (f:=6+lev) (by omega) hix.2 (by omega) (by omega)
   have step:∀ κ:(Int × Int)→Option Bool,sw_right.b0 k T S C H K V L l lev κ j (plF x) (key,x)=if ((j == 0 || decide (key<atF T S C H K V L l (x % 4294967296) 1)) && (decide (j<C) && ndB T S C H K V L l (plF x) lev))=true then κ (atF T S C H K V L l (x % 4294967296) 1,nxF T S C H K V L l lev x) else some false:=by
    intro κ
    unfold sw_right.b0
    dsimp only
    rw [hpi,wi64 (n:=6+lev) (by omega) (by omega),hw.at_ (f:=1) (by omega) hix.2 (by omega) (by omega),hw.at_ (f:=6+lev) (by omega) hix.2 (by omega) (by omega),hw.node hp.1 hp.2 (by omega) (by omega) h0 h1 hk]
    simp only [Option.bind_some]
    have ej:((if j=0 then some true else some (decide (key<atF T S C H K V L l (x % 4294967296) 1))):Option Bool)=some (j == 0 || decide (key<atF T S C H K V L l (x % 4294967296) 1)):=by
     by_cases hz:j=0
     ·rw [if_pos hz,hz]; rfl
     ·rw [if_neg hz,show (j == 0)=false from beq_eq_false_iff_ne.2 hz]; rfl
    rw [ej]
    simp only [Option.bind_some]
    by_cases q:j≥C
    ·rw [if_pos q,decide_eq_false (show ¬ j<C by omega)]
     simp
    ·rw [if_neg q,decide_eq_true (show j<C by omega)]
     cases (j == 0 || decide (key<atF T S C H K V L l (x % 4294967296) 1)) <;> cases ndB T S C H K V L l (plF x) lev <;> rfl
   have unf:∀ (ys:List (Int × Int)) (fin:Int × Int→Option Bool) (p:Int × Int) (s:Int × Int),rng (sw_right.b0 k T S C H K V L l lev) (p :: ys) fin s=sw_right.b0 k T S C H K V L l lev (fun s'=>rng (sw_right.b0 k T S C H K V L l lev) ys fin s') p.1 p.2 s:=fun _ _ _ _=>rfl
   rw [unf,step,List.map_cons,List.length_cons]
   show _=some (_ && (_ && ((j == 0 || decide (key<atF T S C H K V L l (plF x % 4294967296) 1)) && (ndB T S C H K V L l (plF x) lev && rlB T S C H K V L l lev false (atF T S C H K V L l (plF x % 4294967296) 1) _))))
   rw [hpi]
   by_cases q:j<C
   ·have ih:=hw.right_rng h0 h1 hk m (j+1) (nxF T S C H K V L l lev x) (atF T S C H K V L l (x % 4294967296) 1) (by omega) (by omega) (by omega) hbn.1 hbn.2
    rw [ih,decide_eq_true q,show (j+1 == 0)=false from beq_eq_false_iff_ne.2 (by omega)]
    generalize (ylF C (nmF T S C H K V L l) plF (nxF T S C H K V L l lev) m (j+1) (nxF T S C H K V L l lev x))=ys
    rw [show decide (j+((ys.length+1:Nat):Int)≤C)=decide (j+1+(ys.length:Int)≤C) from by rw [Bool.eq_iff_iff,decide_eq_true_eq,decide_eq_true_eq]; omega]
    cases (j == 0 || decide (key<atF T S C H K V L l (x % 4294967296) 1)) <;> cases ndB T S C H K V L l (plF x) lev <;> simp
   ·rw [decide_eq_false q,decide_eq_false (show ¬ j+(((ylF C (nmF T S C H K V L l) plF (nxF T S C H K V L l lev) m (j+1) (nxF T S C H K V L l lev x)).length+1:Nat):Int)≤C by omega)]
    simp
  ·rw [if_neg hn,if_neg hn]
   have e:rng (sw_right.b0 k T S C H K V L l lev) ([]:List (Int × Int)) (fun (x61_,x62_)=>(handle_Valid.f x62_).bind fun t140_=>some (!t140_)) (key,x)=(handle_Valid.f x).bind fun t140_=>some (!t140_):=rfl
   rw [e,valid_is hx0 hx1]
   simp only [Option.bind_some,List.length_nil,List.map_nil]
   rw [decide_eq_true (show j+((0:Nat):Int)≤C by omega)]
   simp [rlB]
theorem Wd.right (hw:Wd T S C H K V L l) {lev:Int} (h0:0≤lev) (h1:lev<H) {k:Nat} (hk:1500≤k):sw_right.f k T S C H K V L l lev=some (rgB T S C H K V L l lev):=by
 have hC:=hw.r.c
 have hH:=hw.r.h
 have hb:=hw.au (i:=0) (f:=6+lev) (by omega) (by omega) (by omega) (by omega)
 unfold sw_right.f rgB
 rw [wi64 (n:=6+lev) (by omega) (by omega),hw.at_ (by omega) (by omega) (by omega) (by omega)]
 simp only [Option.bind_some]
 rw [marked_is hb.1 hb.2,if_pos (hw.ok h0 h1),if_pos (show 1000≤k by omega)]
 simp only [Option.bind_some]
 show (if mkB T S C H K V L l 0 lev=true then _ else _)=_
 cases mkB T S C H K V L l 0 lev with
 | true=>rfl
 | false =>
  rw [if_neg (by decide),hw.lv h0 h1,hw.right_rng h0 h1 hk (C.toNat+1) 0 _ 0 (by omega) (by omega) (by omega) hb.1 hb.2]
  unfold lvs
  rw [hw.lv h0 h1,List.length_map,Int.zero_add]
  rfl
theorem Wd.right_l0 (hw:Wd T S C H K V L l):∀ (m k:Nat) (x:Int),0≤x→(H - x).toNat=m→m+1600≤k→shape_Right.l0 k T S C H K V L l x=some (mks (rgB T S C H K V L l) m x)
 | m,0,x,_,_,h=>absurd h (by omega)
 | 0,k+1,x,hx,hm,hk=>by rw [shape_Right.l0,if_neg (by omega)]; rfl
 | m+1,k+1,x,hx,hm,hk=>by
  have hH:=hw.r.h
  rw [shape_Right.l0,if_pos (by omega),hw.right hx (by omega) (by omega),wi64 (n:=x+1) (by omega) (by omega)]
  simp only [Option.bind_some]
  rw [hw.right_l0 m k (x+1) (by omega) (by omega) (by omega),mks_succ]
  cases rgB T S C H K V L l x <;> rfl
def RightB (T S C H K V L:Int) (l:List Int):Bool:=(atF T S C H K V L l 0 0 == 1) && mks (rgB T S C H K V L l) H.toNat 0
theorem Wd.Right (hw:Wd T S C H K V L l) {k:Nat} (hk:2000≤k):shape_Right.f k T S C H K V L l=some (RightB T S C H K V L l):=by
 have hC:=hw.r.c
 have hH:=hw.r.h
 unfold shape_Right.f RightB
 rw [whole_is,r7_iff.2 hw.r,decide_eq_true hw.len,hw.taken (h:=9223372036854775808) (by decide) (by rw [show (9223372036854775808:Int) % 4294967296=0 by decide]; omega),hw.right_l0 H.toNat k 0 (Int.le_refl _) (by omega) (by omega)]
 simp only [Bool.and_self,Option.bind_some,if_true]
 have e:tkB T S C H K V L l 9223372036854775808=(atF T S C H K V L l 0 0 == 1):=by
  unfold tkB
  rw [show (9223372036854775808:Int) % 4294967296=0 by decide,show (4:Int) * (9223372036854775808 / 4294967296 % 1073741824)+1=1 by decide]
 rw [e]
 cases (atF T S C H K V L l 0 0 == 1) <;> rfl
theorem Wd.rright_l1 (hw:Wd T S C H K V L l) {lev:Int} (h0:0≤lev) (h1:lev<H) {ys:List Int} (hys:ys.length≤100) (hm:∀ h∈ys,0≤h∧h<18446744073709551616∧1≤h % 4294967296∧h % 4294967296≤C) {k:Nat} (hk:1500≤k):∀ (rest:List Int) (i:Nat) (key:Int),ys.drop i=rest→(0<i→∃ p,ys[i - 1]?=some p∧key=atF T S C H K V L l (p % 4294967296) 1) →
  sr21_Right.l1 (rest.length+1+k) T S C H K V L l lev ys (i:Int)=if rlB T S C H K V L l lev ((i:Int) == 0) key rest=true then sr21_Right.l0 k T S C H K V L l (lev+1) else some false
 | [],i,key,hd,hkey=>by
  have hH:=hw.r.h
  have hl:ys.length≤i:=List.drop_eq_nil_iff.1 hd
  rw [show ([]:List Int).length+1+k=k+1 by simp; omega,sr21_Right.l1,if_neg (by omega),wi64 (n:=lev+1) (by omega) (by omega)]
  rfl
 | h :: rest,i,key,hd,hkey=>by
  have hH:=hw.r.h
  obtain ⟨hi,hg,hr⟩:=drop_cons' hd
  have e1:rd ys (i:Int)=h:=by unfold rd; rw [Int.toNat_natCast,List.getD_eq_getElem?_getD,hg]; rfl
  have hh:=hm h (List.mem_of_getElem? hg)
  have ih:=hw.rright_l1 h0 h1 hys hm hk rest (i+1) (atF T S C H K V L l (h % 4294967296) 1) hr (fun _=>⟨h,by rw [Nat.add_sub_cancel]; exact hg,rfl⟩)
  rw [show (h :: rest).length+1+k=(rest.length+1+k)+1 by rw [List.length_cons]; omega,sr21_Right.l1,if_pos (by omega),if_pos (by omega),e1,hw.rnode hh.1 hh.2.1 hh.2.2.1 hh.2.2.2 h0 h1 (by omega),show IntKind.wrap .i64 ((i:Int)+1)=((i+1:Nat):Int) by rw [wi64 (by omega) (by omega)]; rfl,ih,show (((i+1:Nat):Int) == 0)=false from beq_eq_false_iff_ne.2 (by omega)]
  simp only [Option.bind_some]
  show _=if (((i:Int) == 0 || decide (key<atF T S C H K V L l (h % 4294967296) 1)) && (ndB T S C H K V L l h lev && rlB T S C H K V L l lev false (atF T S C H K V L l (h % 4294967296) 1) rest))=true then _ else _
  cases ndB T S C H K V L l h lev with
  | false=>simp
  | true =>
   rw [if_pos rfl]
   by_cases hz:(i:Int) > 0
   ·obtain ⟨p,hp,hkp⟩:=hkey (by omega)
    have hpm:=hm p (List.mem_of_getElem? hp)
    have e2:rd ys ((i:Int) - 1)=p:=by unfold rd; rw [show ((i:Int) - 1).toNat=i - 1 by omega,List.getD_eq_getElem?_getD,hp]; rfl
    rw [if_pos hz,wi64 (n:=(i:Int) - 1) (by omega) (by omega),if_pos (by omega),if_pos (by omega),e2,ref_index hpm.1]
    simp only [Option.bind_some]
    rw [hw.rat (by omega) hpm.2.2.2 (by omega) (by omega),ref_index hh.1]
    simp only [Option.bind_some]
    rw [hw.rat (by omega) hh.2.2.2 (by omega) (by omega),← hkp,show ((i:Int) == 0)=false from beq_eq_false_iff_ne.2 (by omega)]
    simp only [Option.bind_some]
    by_cases hlt:key<atF T S C H K V L l (h % 4294967296) 1
    ·rw [decide_eq_true hlt,decide_eq_false (show ¬ key≥atF T S C H K V L l (h % 4294967296) 1 by omega)]
     rfl
    ·rw [decide_eq_false hlt,decide_eq_true (show key≥atF T S C H K V L l (h % 4294967296) 1 by omega)]
     rfl
   ·rw [if_neg hz,show ((i:Int) == 0)=true from beq_iff_eq.2 (by omega)]
    rfl
theorem Wd.rright_l0 (hw:Wd T S C H K V L l):∀ (m k:Nat) (x:Int),0≤x→(H - x).toNat=m→70 * m+1600≤k→sr21_Right.l0 k T S C H K V L l x=some (mks (rgB T S C H K V L l) m x)
 | m,0,x,_,_,h=>absurd h (by omega)
 | 0,k+1,x,hx,hm,hk=>by rw [sr21_Right.l0,if_neg (by omega)]; rfl
 | m+1,k+1,x,hx,hm,hk=>by
  have hC:=hw.r.c
  have hH:=hw.r.h
  have hlen:=hw.len_ hx (show x<H by omega)
  rw [sr21_Right.l0,if_pos (by omega),hw.rlevel (by omega) hx (by omega),mks_succ]
  simp only [Option.bind_some]
  rw [hw.rmarked (by omega) (by omega) hx (by omega),ref_valid]
  simp only [Option.bind_some]
  unfold rgB
  cases mkB T S C H K V L l 0 x with
  | true=>rfl
  | false =>
   rw [if_neg (by decide)]
   by_cases q:((lvs T S C H K V L l x).length:Int) > C
   ·rw [if_pos q,decide_eq_false (show ¬ ((lvs T S C H K V L l x).length:Int)≤C by omega)]
    rfl
   ·rw [if_neg q,decide_eq_true (show ((lvs T S C H K V L l x).length:Int)≤C by omega)]
    simp only [Option.bind_some]
    cases decide (endF T S C H K V L l x≥9223372036854775808) with
    | true=>rfl
    | false =>
     rw [if_neg (by decide)]
     obtain ⟨k',rfl⟩:∃ k',k=(lvs T S C H K V L l x).length+1+k':=⟨k - (lvs T S C H K V L l x).length - 1,by omega⟩
     have:=hw.rright_l1 hx (show x<H by omega) (ys:=lvs T S C H K V L l x) (by omega) (fun h hh=>hw.mem hh) (k:=k') (by omega) (lvs T S C H K V L l x) 0 0 rfl (fun h=>absurd h (by decide))
     rw [show ((0:Nat):Int)=0 from rfl] at this
     rw [this,hw.rright_l0 m k' (x+1) (by omega) (by omega) (by omega)]
     show (if rlB T S C H K V L l x true 0 (lvs T S C H K V L l x)=true then _ else _)=_
     cases rlB T S C H K V L l x true 0 (lvs T S C H K V L l x) <;> rfl
theorem Wd.rRight (hw:Wd T S C H K V L l) {k:Nat} (hk:2100≤k):sr21_Right.f k T S C H K V L l=some (RightB T S C H K V L l):=by
 have hC:=hw.r.c
 have hH:=hw.r.h
 unfold sr21_Right.f RightB
 rw [hw.rwhole,hw.rat (by omega) (by omega) (by omega) (by omega),ref_taken (by decide) (by decide),hw.rright_l0 H.toNat k 0 (Int.le_refl _) (by omega) (by omega)]
 simp only [Option.bind_some,if_true]
 rw [show (4:Int) * 0+1=1 from rfl]
 by_cases q:atF T S C H K V L l 0 0=1
 ·rw [q]; rfl
 ·rw [show (atF T S C H K V L l 0 0 != 1)=true by simpa using q,show (atF T S C H K V L l 0 0 == 1)=false from beq_eq_false_iff_ne.2 q]
  rfl
end
end Go.Eng
namespace Go.Eng
open Go.Proofs Go.RowKit Go.Proofs.YtgbcnokeaaabfaaGreatW.PrintWords
set_option linter.unusedVariables false
set_option linter.unusedSimpArgs false
theorem mks_iff {f:Int→Bool}:∀ {n:Nat} {x:Int},mks f n x=true↔∀ y,x≤y→y<x+n→f y=true
 | 0,x=>⟨fun _ y h1 h2=>absurd h1 (by omega),fun _=>rfl⟩
 | n+1,x=>by
  rw [mks_succ,Bool.and_eq_true,mks_iff]
  refine ⟨fun ⟨h1,h2⟩ y h3 h4=>?_,fun h=>⟨h x (Int.le_refl x) (by omega),fun y h1 h2=>h y (by omega) (by omega)⟩⟩
  by_cases e:y=x
  ·rw [e]; exact h1
  ·exact h2 y (by omega) (by omega)
theorem bit3 (b:BitVec 64):(b &&& BitVec.ofInt 64 3).toNat=b.toNat % 4:=by
 rw [BitVec.toNat_and,show (BitVec.ofInt 64 3).toNat=2 ^ 2 - 1 by decide,Nat.and_two_pow_sub_one_eq_mod]
theorem state_is {x:Int} (h0:0≤x) (h1:x<18446744073709551616):slot_State.f x=some (x % 4):=by
 have e:=ofInt_nat h0 h1
 have e2:=bit3 (BitVec.ofInt 64 x)
 unfold slot_State.f
 rw [show IntKind.bits .u64=64 from rfl,e2,wu64 (by omega) (by omega),wi64 (by omega) (by omega)]
 congr 1
 omega
theorem ref_state {x:Int} (h0:0≤x):sr02_State.f x=some (x % 4):=by
 unfold sr02_State.f
 rw [Int.tmod_eq_emod_of_nonneg h0,wi64 (by omega) (by omega)]
section
variable {T S C H K V L:Int} {l:List Int}
def stL (T S C H K V L:Int) (l:List Int) (h lev:Int):Bool:=!mkB T S C H K V L l (h % 4294967296) lev && (lvs T S C H K V L l lev).contains h
def stB (T S C H K V L:Int) (l:List Int) (h:Int):Bool:=!ddB T S C H K V L l (h % 4294967296) && ((atF T S C H K V L l (h % 4294967296) 5 == 1) && mks (stL T S C H K V L l h) (atF T S C H K V L l (h % 4294967296) 4).toNat 0)
theorem Wd.settled_l0 (hw:Wd T S C H K V L l) {h t:Int} (h1:0≤h % 4294967296) (h2:h % 4294967296≤C) (ht0:0≤t) (ht:t≤H):∀ (m k:Nat) (x:Int),0≤x→(t - x).toNat=m→m+1000≤k→sw_settled.l0 k T S C H K V L l h t x=some (mks (stL T S C H K V L l h) m x)
 | m,0,x,_,_,h=>absurd h (by omega)
 | 0,k+1,x,hx,hm,hk=>by
  have hH:=hw.r.h
  rw [sw_settled.l0,if_neg (by rw [wi64 (n:=t) (by omega) (by omega)]; omega)]
  rfl
 | m+1,k+1,x,hx,hm,hk=>by
  have hH:=hw.r.h
  have hlen:=hw.len_ hx (show x<H by omega)
  rw [sw_settled.l0,if_pos (by rw [wi64 (n:=t) (by omega) (by omega)]; omega),hw.marked h1 h2 hx (by omega),wi64 (n:=x+1) (by omega) (by omega),hw.level (by omega) hx (by omega)]
  simp only [Option.bind_some]
  rw [contains_is (by omega) h (by omega),hw.settled_l0 h1 h2 ht0 ht m k (x+1) (by omega) (by omega) (by omega),mks_succ]
  unfold stL
  cases mkB T S C H K V L l (h % 4294967296) x <;> cases (lvs T S C H K V L l x).contains h <;> rfl
theorem Wd.settled (hw:Wd T S C H K V L l) {h:Int} (h1:0≤h % 4294967296) (h2:h % 4294967296≤C) (ht:atF T S C H K V L l (h % 4294967296) 4≤H) {k:Nat} (hk:1500≤k):sw_settled.f k T S C H K V L l h=some (stB T S C H K V L l h):=by
 have hH:=hw.r.h
 have hb:=hw.au (i:=h % 4294967296) (f:=4) h1 h2 (by omega) (by omega)
 have hb2:=hw.au (i:=h % 4294967296) (f:=2) h1 h2 (by omega) (by omega)
 unfold sw_settled.f stB
 rw [hw.at_ (f:=2) h1 h2 (by omega) (by omega),hw.at_ (f:=5) h1 h2 (by omega) (by omega),hw.at_ (f:=4) h1 h2 (by omega) (by omega)]
 simp only [Option.bind_some]
 rw [dead_is hb2.1 hb2.2,hw.settled_l0 h1 h2 hb.1 ht (atF T S C H K V L l (h % 4294967296) 4).toNat k 0 (Int.le_refl _) (by omega) (by omega)]
 simp only [Option.bind_some]
 show ((if ddB T S C H K V L l (h % 4294967296)=true then some true else some (atF T S C H K V L l (h % 4294967296) 5 != 1)):Option Bool).bind _=_
 cases ddB T S C H K V L l (h % 4294967296) with
 | true=>rfl
 | false =>
  by_cases q:atF T S C H K V L l (h % 4294967296) 5=1
  ·rw [q]; rfl
  ·rw [show (atF T S C H K V L l (h % 4294967296) 5 != 1)=true by simpa using q,show (atF T S C H K V L l (h % 4294967296) 5 == 1)=false from beq_eq_false_iff_ne.2 q]
   rfl
theorem Wd.rsettled_l0 (hw:Wd T S C H K V L l) {h t:Int} (h1:0≤h % 4294967296) (h2:h % 4294967296≤C) (et:atF T S C H K V L l (h % 4294967296) 4=t) (ht0:0≤t) (ht:t≤H):∀ (m k:Nat) (x:Int),0≤x→(t - x).toNat=m→m+1000≤k→sr21_settled.l0 k T S C H K V L l h (h % 4294967296) x=some (mks (stL T S C H K V L l h) m x && (lvs T S C H K V L l 0).contains h)
 | m,0,x,_,_,h=>absurd h (by omega)
 | 0,k+1,x,hx,hm,hk=>by
  have hH:=hw.r.h
  have hlen:=hw.len_ (Int.le_refl 0) (show (0:Int)<H by omega)
  rw [sr21_settled.l0,hw.rat h1 h2 (by omega) (by omega),et]
  simp only [Option.bind_some]
  rw [if_neg (by rw [wi64 (n:=t) (by omega) (by omega)]; omega),hw.rlevel (by omega) (Int.le_refl 0) (by omega)]
  simp only [Option.bind_some]
  rw [in_is (by omega) h (by omega)]
  rfl
 | m+1,k+1,x,hx,hm,hk=>by
  have hH:=hw.r.h
  have hlen:=hw.len_ hx (show x<H by omega)
  rw [sr21_settled.l0,hw.rat h1 h2 (by omega) (by omega),et]
  simp only [Option.bind_some]
  rw [if_pos (by rw [wi64 (n:=t) (by omega) (by omega)]; omega),hw.rlevel (by omega) hx (by omega)]
  simp only [Option.bind_some]
  rw [hw.rmarked h1 h2 hx (by omega),in_is (by omega) h (by omega),wi64 (n:=x+1) (by omega) (by omega),hw.rsettled_l0 h1 h2 et ht0 ht m k (x+1) (by omega) (by omega) (by omega),mks_succ]
  unfold stL
  cases mkB T S C H K V L l (h % 4294967296) x <;> cases (lvs T S C H K V L l x).contains h <;> rfl
theorem Wd.rsettled (hw:Wd T S C H K V L l) {h:Int} (h0:0≤h) (h1:0≤h % 4294967296) (h2:h % 4294967296≤C) (ht:atF T S C H K V L l (h % 4294967296) 4≤H) {k:Nat} (hk:1500≤k):sr21_settled.f k T S C H K V L l h=some (stB T S C H K V L l h && (lvs T S C H K V L l 0).contains h):=by
 have hH:=hw.r.h
 have hb:=hw.au (i:=h % 4294967296) (f:=4) h1 h2 (by omega) (by omega)
 have hb2:=hw.au (i:=h % 4294967296) (f:=2) h1 h2 (by omega) (by omega)
 unfold sr21_settled.f stB
 rw [ref_index h0]
 simp only [Option.bind_some]
 rw [hw.rat (f:=2) h1 h2 (by omega) (by omega),hw.rat (f:=5) h1 h2 (by omega) (by omega)]
 simp only [Option.bind_some]
 rw [ref_dead hb2.1,hw.rsettled_l0 h1 h2 rfl hb.1 ht (atF T S C H K V L l (h % 4294967296) 4).toNat k 0 (Int.le_refl _) (by omega) (by omega)]
 simp only [Option.bind_some]
 show ((if ddB T S C H K V L l (h % 4294967296)=true then some true else some (atF T S C H K V L l (h % 4294967296) 5 != 1)):Option Bool).bind _=_
 cases ddB T S C H K V L l (h % 4294967296) with
 | true=>rfl
 | false =>
  by_cases q:atF T S C H K V L l (h % 4294967296) 5=1
  ·rw [q]; rfl
  ·rw [show (atF T S C H K V L l (h % 4294967296) 5 != 1)=true by simpa using q,show (atF T S C H K V L l (h % 4294967296) 5 == 1)=false from beq_eq_false_iff_ne.2 q]
   rfl
theorem RightB_tall (hR:RightB T S C H K V L l=true) {lev h:Int} (h0:0≤lev) (h1:lev<H) (hm:h∈lvs T S C H K V L l lev):atF T S C H K V L l (h % 4294967296) 4≤H:=by
 unfold RightB at hR
 rw [Bool.and_eq_true] at hR
 have h2:=mks_iff.1 hR.2 lev h0 (by omega)
 unfold rgB at h2
 simp only [Bool.and_eq_true] at h2
 have key:∀ (ys:List Int) (f:Bool) (key:Int),rlB T S C H K V L l lev f key ys=true→∀ h∈ys,ndB T S C H K V L l h lev=true:=by
  intro ys
  induction ys with
  | nil=>intro _ _ _ h hh; cases hh
  | cons y t ih =>
   intro f key hr h hh
   unfold rlB at hr
   simp only [Bool.and_eq_true] at hr
   rcases List.mem_cons.1 hh with rfl | hh
   ·exact hr.2.1
   ·exact ih _ _ hr.2.2 h hh
 have h3:=key _ _ _ h2.2.2.2 h hm
 unfold ndB at h3
 simp only [Bool.and_eq_true,decide_eq_true_eq] at h3
 exact h3.2.2.1
def goodB (T S C H K V L:Int) (l:List Int) (h:Int):Bool:=nmF T S C H K V L l h && (!decide (h / 4611686018427387904 % 2=1) && tkB T S C H K V L l h)
def cntI (own:List Int) (i:Int):Int:=((own.filter (fun h=>h % 4294967296 == i)).length:Int)
theorem cnt_cons (h:Int) (own:List Int) (i:Int):cntI (h :: own) i=(if h % 4294967296=i then 1 else 0)+cntI own i:=by
 unfold cntI
 by_cases e:h % 4294967296=i
 ·rw [if_pos e,List.filter_cons_of_pos (by simpa using e),List.length_cons]
  omega
 ·rw [if_neg e,List.filter_cons_of_neg (by simpa using e)]
  omega
theorem cnt_le (own:List Int) (i:Int):0≤cntI own i∧cntI own i≤own.length:=by
 unfold cntI
 have:=List.length_filter_le (fun h:Int=>h % 4294967296 == i) own
 omega
def tmB (T S C H K V L:Int) (l own:List Int) (i:Int):Bool:=decide (cntI own i≤1) && ((atF T S C H K V L l i 0 % 4 == 1) == (cntI own i == 1))
theorem Wd.l5 (hw:Wd T S C H K V L l) {own ts:List Int} (hts:(ts.length:Int)=C+1) (hc:∀ j,0≤j→j≤C→rd ts j=cntI own j):∀ (m k:Nat) (y:Int),C+1=y+m→m<k→1≤y→shape_Rest.l5 k T S C H K V L l ts y=some (mks (tmB T S C H K V L l own) m y)
 | m,0,y,_,h,_=>absurd h (by omega)
 | 0,k+1,y,hy,hk,h0=>by rw [shape_Rest.l5,if_neg (by omega)]; rfl
 | m+1,k+1,y,hy,hk,h0=>by
  have hC:=hw.r.c
  have hH:=hw.r.h
  have hb:=hw.au (i:=y) (f:=0) (by omega) (by omega) (by omega) (by omega)
  rw [shape_Rest.l5,if_pos (by omega),hw.at_ (by omega) (by omega) (by omega) (by omega)]
  simp only [Option.bind_some]
  rw [state_is hb.1 hb.2,hc y (by omega) (by omega),wi64 (n:=C+1) (by omega) (by omega),wi64 (n:=y+1) (by omega) (by omega)]
  simp only [Option.bind_some]
  rw [if_pos (show 0≤y by omega),if_pos (show y<((C+1).toNat:Int) by omega),hw.l5 hts hc m k (y+1) (by omega) (by omega) (by omega),mks_succ]
  unfold tmB
  by_cases q:cntI own y > 1
  ·rw [if_pos q,decide_eq_false (show ¬ cntI own y≤1 by omega)]
   rfl
  ·rw [if_neg q,decide_eq_true (show cntI own y≤1 by omega)]
   cases (atF T S C H K V L l y 0 % 4 == 1) <;> cases (cntI own y == 1) <;> rfl
theorem Wd.l4 (hw:Wd T S C H K V L l) {own:List Int} (ho:own.length≤500) (hu:∀ h∈own,0≤h∧h<18446744073709551616):∀ (rest:List Int) (k i:Nat) (ts:List Int),own.drop i=rest→(ts.length:Int)=C+1→(∀ j,0≤j→j≤C→rd ts j=cntI (own.take i) j)→rest.length+200≤k→shape_Rest.l4 k T S C H K V L l own (i:Int) ts=some (rest.all (goodB T S C H K V L l) && mks (tmB T S C H K V L l own) C.toNat 1)
 | rest,0,i,ts,_,_,_,h=>absurd h (by omega)
 | [],k+1,i,ts,hd,hts,hc,hk=>by
  have hC:=hw.r.c
  have hl:own.length≤i:=List.drop_eq_nil_iff.1 hd
  rw [List.take_of_length_le hl] at hc
  rw [shape_Rest.l4,if_neg (by omega),hw.l5 hts hc C.toNat k 1 (by omega) (by omega) (Int.le_refl _)]
  rfl
 | h :: rest,k+1,i,ts,hd,hts,hc,hk=>by
  have hC:=hw.r.c
  obtain ⟨hi,hg,hr⟩:=drop_cons' hd
  have e1:rd own (i:Int)=h:=by unfold rd; rw [Int.toNat_natCast,List.getD_eq_getElem?_getD,hg]; rfl
  have hh:=hu h (List.mem_of_getElem? hg)
  rw [List.length_cons] at hk
  rw [shape_Rest.l4,if_pos (by omega),if_pos (by omega),e1,names_eq]
  simp only [Option.bind_some,List.all_cons]
  unfold goodB
  cases hn:nmF T S C H K V L l h with
  | false=>rfl
  | true =>
   have hix:=names_ix hn
   rw [if_pos rfl,marked_is hh.1 hh.2]
   simp only [Option.bind_some]
   cases hm:decide (h / 4611686018427387904 % 2=1) with
   | true=>rfl
   | false =>
    rw [if_neg (by decide),hw.taken (by omega) hix.2]
    simp only [Option.bind_some]
    cases ht:tkB T S C H K V L l h with
    | false=>rfl
    | true =>
     have hcn:=cnt_le (own.take i) (h % 4294967296)
     have hlt:(own.take i).length≤own.length:=by rw [List.length_take]; omega
     have e2:=hc (h % 4294967296) (by omega) hix.2
     simp only [Bool.not_true,Bool.false_eq_true,if_false,Bool.not_false,Bool.true_and]
     rw [if_pos (by omega),wi64 (n:=C+1) (by omega) (by omega),if_pos (show h % 4294967296<((C+1).toNat:Int) by omega),e2,wi64 (n:=cntI (own.take i) (h % 4294967296)+1) (by omega) (by omega),show IntKind.wrap .i64 ((i:Int)+1)=((i+1:Nat):Int) by rw [wi64 (by omega) (by omega)]; rfl]
     refine hw.l4 ho hu rest k (i+1) _ hr (by rw [List.length_set]; exact hts) (fun j hj0 hj1=>?_) (by omega)
     have e3:own.take (i+1)=own.take i ++ [h]:=by rw [List.take_add_one,hg]; rfl
     have e4:cntI (own.take (i+1)) j=cntI (own.take i) j+(if h % 4294967296=j then 1 else 0):=by
      rw [e3]
      unfold cntI
      rw [List.filter_append,List.length_append]
      by_cases q:h % 4294967296=j
      ·rw [if_pos q,List.filter_cons_of_pos (by simpa using q)]; simp
      ·rw [if_neg q,List.filter_cons_of_neg (by simpa using q)]; simp
     rw [rd_set (by omega),e4]
     by_cases q:j=h % 4294967296
     ·rw [if_pos (by omega),if_pos q.symm,q]
     ·rw [if_neg (by omega),if_neg (fun e=>q e.symm),hc j hj0 hj1]
      omega
def tmV:Bool→Int→Int
 | true,n=>n
 | false,_ => -1
theorem Wd.times (hw:Wd T S C H K V L l) {own:List Int} (ho:own.length≤500) (hu:∀ h∈own,0≤h∧h<18446744073709551616) (i:Int):∀ (rest:List Int) (k j:Nat) (n:Int),own.drop j=rest→rest.length<k→0≤n→n≤j→sr21_times.l0 k T S C H K V L l own i n (j:Int)=some (tmV (rest.all (goodB T S C H K V L l)) (n+cntI rest i))
 | rest,0,j,n,_,h,_,_=>absurd h (by omega)
 | [],k+1,j,n,hd,hk,_,_=>by
  have hl:own.length≤j:=List.drop_eq_nil_iff.1 hd
  rw [sr21_times.l0,if_neg (by omega)]
  simp [cntI,tmV]
 | h :: rest,k+1,j,n,hd,hk,hn0,hnj=>by
  have hC:=hw.r.c
  have hH:=hw.r.h
  obtain ⟨hi,hg,hr⟩:=drop_cons' hd
  have e1:rd own (j:Int)=h:=by unfold rd; rw [Int.toNat_natCast,List.getD_eq_getElem?_getD,hg]; rfl
  have hh:=hu h (List.mem_of_getElem? hg)
  have ew:IntKind.wrap .i64 ((j:Int)+1)=((j+1:Nat):Int):=by rw [wi64 (by omega) (by omega)]; rfl
  rw [List.length_cons] at hk
  rw [sr21_times.l0,if_pos (by omega),if_pos (by omega),e1,ref_index hh.1,ref_valid,ref_marked hh.1 hh.2,ew]
  simp only [Option.bind_some]
  rw [List.all_cons,show goodB T S C H K V L l h=(nmF T S C H K V L l h && (!decide (h / 4611686018427387904 % 2=1) && tkB T S C H K V L l h)) from rfl,nm_is hh.1 hh.2]
  by_cases q1:h≥9223372036854775808
  ·rw [decide_eq_true q1,if_pos rfl]
   cases hm:decide (h / 4611686018427387904 % 2=1) with
   | true=>simp [tmV]
   | false =>
    rw [if_neg (by decide)]
    by_cases q2:h % 4294967296<1
    ·rw [if_pos q2,decide_eq_false (show ¬ h % 4294967296≥1 by omega)]
     simp [tmV]
    ·rw [if_neg q2,decide_eq_true (show h % 4294967296≥1 by omega)]
     by_cases q3:h % 4294967296 > C
     ·rw [decide_eq_true q3,decide_eq_false (show ¬ h % 4294967296≤C by omega)]
      simp [tmV]
     ·rw [decide_eq_false q3,decide_eq_true (show h % 4294967296≤C by omega)]
      simp only [Option.bind_some,Bool.false_eq_true,if_false,Bool.and_self,Bool.true_and,Bool.not_false]
      rw [hw.rat (by omega) (by omega) (by omega) (by omega),ref_gen hh.1 hh.2]
      simp only [Option.bind_some]
      rw [ref_taken (by omega) (by omega)]
      simp only [Option.bind_some]
      by_cases q4:atF T S C H K V L l (h % 4294967296) 0=4 * (h / 4294967296 % 1073741824)+1
      ·rw [if_pos q4,show tkB T S C H K V L l h=true from beq_iff_eq.2 q4,wi64 (n:=n+1) (by omega) (by omega),hw.times ho hu i rest k (j+1) (n+1) hr (by omega) (by omega) (by omega),hw.times ho hu i rest k (j+1) n hr (by omega) (by omega) (by omega),Bool.true_and,cnt_cons]
       by_cases q5:h % 4294967296=i
       ·rw [if_pos q5,if_pos q5,show n+1+cntI rest i=n+(1+cntI rest i) by omega]
       ·rw [if_neg q5,if_neg q5,Int.zero_add]
      ·rw [if_neg q4,show tkB T S C H K V L l h=false from beq_eq_false_iff_ne.2 q4]
       simp [tmV]
  ·rw [decide_eq_false q1]
   simp [tmV]
theorem Wd.rl5 (hw:Wd T S C H K V L l) {own:List Int} (ho:own.length≤500) (hu:∀ h∈own,0≤h∧h<18446744073709551616) (hg:own.all (goodB T S C H K V L l)=true):∀ (m k:Nat) (y:Int),C+1=y+m→m+600≤k→1≤y→sr21_Rest.l5 k T S C H K V L l own y=some (mks (tmB T S C H K V L l own) m y)
 | m,0,y,_,h,_=>absurd h (by omega)
 | 0,k+1,y,hy,hk,h0=>by rw [sr21_Rest.l5,if_neg (by omega)]; rfl
 | m+1,k+1,y,hy,hk,h0=>by
  have hC:=hw.r.c
  have hH:=hw.r.h
  have hb:=hw.au (i:=y) (f:=0) (by omega) (by omega) (by omega) (by omega)
  have hcl:=cnt_le own y
  have ht:sr21_times.f k T S C H K V L l own y=some (cntI own y):=by
   unfold sr21_times.f
   have:=hw.times ho hu y own k 0 0 rfl (by omega) (by omega) (by omega)
   rw [hg,Int.zero_add] at this
   exact this
  rw [sr21_Rest.l5,if_pos (by omega),ht]
  simp only [Option.bind_some]
  rw [hw.rat (by omega) (by omega) (by omega) (by omega)]
  simp only [Option.bind_some]
  rw [ref_state hb.1,wi64 (n:=y+1) (by omega) (by omega)]
  simp only [Option.bind_some]
  rw [if_neg (show ¬ cntI own y<0 by omega),hw.rl5 ho hu hg m k (y+1) (by omega) (by omega) (by omega),mks_succ]
  unfold tmB
  by_cases q:cntI own y > 1
  ·rw [if_pos q,decide_eq_false (show ¬ cntI own y≤1 by omega)]
   rfl
  ·rw [if_neg q,decide_eq_true (show cntI own y≤1 by omega)]
   cases (atF T S C H K V L l y 0 % 4 == 1) <;> cases (cntI own y == 1) <;> rfl
theorem Wd.rl5' (hw:Wd T S C H K V L l) {own:List Int} (ho:own.length≤500) (hu:∀ h∈own,0≤h∧h<18446744073709551616) {k:Nat} (hk:700≤k):sr21_Rest.l5 k T S C H K V L l own 1=some (own.all (goodB T S C H K V L l) && mks (tmB T S C H K V L l own) C.toNat 1):=by
 have hC:=hw.r.c
 have hH:=hw.r.h
 cases hg:own.all (goodB T S C H K V L l) with
 | true=>exact hw.rl5 ho hu hg C.toNat k 1 (by omega) (by omega) (Int.le_refl _)
 | false =>
  obtain ⟨k,rfl⟩:∃ z,k=z+1:=⟨k - 1,by omega⟩
  have hb:=hw.au (i:=1) (f:=0) (by omega) (by omega) (by omega) (by omega)
  have ht:sr21_times.f k T S C H K V L l own 1=some (-1):=by
   unfold sr21_times.f
   have:=hw.times ho hu 1 own k 0 0 rfl (by omega) (by omega) (by omega)
   rw [hg] at this
   exact this
  rw [sr21_Rest.l5,if_pos (by omega),ht]
  simp only [Option.bind_some]
  rw [hw.rat (by omega) (by omega) (by omega) (by omega)]
  simp only [Option.bind_some]
  rw [ref_state hb.1]
  rfl
end
end Go.Eng
namespace Go.Eng
open Go.Proofs Go.RowKit Go.Proofs.YtgbcnokeaaabfaaGreatW.PrintWords
set_option linter.unusedVariables false
set_option linter.unusedSimpArgs false
theorem concat_l1 {ll:List (List S53)} (hb:ll.length≤100):∀ (rest:List (List S53)) (k i:Nat) (xs:List S53),ll.drop i=rest→rest.length<k→xs.length+rest.flatten.length≤1000→slConcat.l1 k ll (i:Int) xs=some (xs ++ rest.flatten)
 | rest,0,i,xs,_,h,_=>absurd h (by omega)
 | [],k+1,i,xs,hd,_,_=>by
  have h1:ll.length≤i:=List.drop_eq_nil_iff.1 hd
  rw [slConcat.l1,if_neg (by omega)]
  simp
 | r :: rest,k+1,i,xs,hd,hk,hx=>by
  obtain ⟨h1,h2,h3⟩:=drop_cons' hd
  have e1:ll.getD (Int.toNat (i:Int)) []=r:=by rw [Int.toNat_natCast,List.getD_eq_getElem?_getD,h2]; rfl
  have e2:IntKind.wrap .i64 ((i:Int)+1)=((i+1:Nat):Int):=by rw [wi64 (by omega) (by omega)]; rfl
  rw [List.length_cons] at hk
  rw [List.flatten_cons,List.length_append] at hx
  rw [slConcat.l1,if_pos (by omega),if_pos (by omega),e1,if_pos (by omega),e2,concat_l1 hb rest k (i+1) (xs ++ r) h3 (by omega) (by rw [List.length_append]; omega),List.flatten_cons,List.append_assoc]
theorem concat_l0 {ll:List (List S53)} (hb:ll.length≤100) (ht:ll.flatten.length≤1000):∀ (rest:List (List S53)) (k i n:Nat),ll.drop i=rest→rest.length+200≤k→n+rest.flatten.length≤1000→slConcat.l0 k ll (n:Int) (i:Int)=some ll.flatten
 | rest,0,i,n,_,h,_=>absurd h (by omega)
 | [],k+1,i,n,hd,hk,hn=>by
  have h1:ll.length≤i:=List.drop_eq_nil_iff.1 hd
  rw [List.flatten_nil,List.length_nil] at hn
  rw [slConcat.l0,if_neg (by omega),if_pos (by omega),if_pos (by omega)]
  exact concat_l1 hb ll k 0 [] rfl (by simp only [List.length_nil] at hk; omega) (by simpa using ht)
 | r :: rest,k+1,i,n,hd,hk,hn=>by
  obtain ⟨h1,h2,h3⟩:=drop_cons' hd
  have e1:ll.getD (Int.toNat (i:Int)) []=r:=by rw [Int.toNat_natCast,List.getD_eq_getElem?_getD,h2]; rfl
  have e2:IntKind.wrap .i64 ((i:Int)+1)=((i+1:Nat):Int):=by rw [wi64 (by omega) (by omega)]; rfl
  rw [List.length_cons] at hk
  rw [List.flatten_cons,List.length_append] at hn
  have e3:IntKind.wrap .i64 ((n:Int)+(r.length:Int))=((n+r.length:Nat):Int):=by rw [wi64 (by omega) (by omega)]; rfl
  rw [slConcat.l0,if_pos (by omega),if_pos (by omega),e1,e3,if_neg (by omega),e2]
  exact concat_l0 hb ht rest k (i+1) (n+r.length) h3 (by omega) (by omega)
theorem concat_is {ll:List (List S53)} (hb:ll.length≤100) (ht:ll.flatten.length≤1000) {k:Nat} (hk:400≤k):slConcat.f k ll=some ll.flatten :=
 concat_l0 hb ht ll k 0 0 rfl (by omega) (by omega)
section
variable {T S C H K V L:Int} {l:List Int}
theorem where_iff (hr:R7 T S C H K V L) {y:Int} (h0:0≤y) (h1:y<lenI T S C H):∃ t a b,plan_Where.f T S C H K V L y=some (t,a,b)∧(t=2↔1≤y∧y<1+T * S):=by
 have hL:=lens hr
 have hH:=hr.h
 have hS:=hr.s
 have hN:lenI T S C H=1+T * S+(C+1) * (6+H):=rfl
 unfold plan_Where.f plan_first.f plan_fields.f
 rw [plan_Len_is,if_pos (r7_iff.2 hr)]
 simp only [Option.bind_some]
 rw [within_is,wi64 (n:=lenI T S C H - 1) (by omega) (by omega),decide_eq_true h0,decide_eq_true (show y≤lenI T S C H - 1 by omega),wi64 (n:=T * S) (by omega) (by omega),wi64 (n:=1+T * S) (by omega) (by omega),wi64 (n:=6+H) (by omega) (by omega)]
 simp only [Bool.and_self,Option.bind_some,if_true]
 by_cases hy:y=0
 ·rw [if_pos hy]
  exact ⟨_,_,_,rfl,fun h=>absurd h (by decide),fun h=>by omega⟩
 rw [if_neg hy,wi64 (n:=y - (1+T * S)) (by omega) (by omega)]
 by_cases hz:y - (1+T * S)<0
 ·rw [if_pos hz,if_pos (by omega)]
  exact ⟨_,_,_,rfl,fun _=>by omega,fun _=>rfl⟩
 ·rw [if_neg hz,if_pos (by omega),if_pos (by omega)]
  exact ⟨_,_,_,rfl,fun h=>absurd h (by decide),fun h=>by omega⟩
def zrB (T S:Int) (l:List Int) (y:Int):Bool:=!(decide (1≤y) && decide (y<1+T * S)) || rd l y == 0
theorem Wd.l1 (hw:Wd T S C H K V L l) (low own:List Int):∀ (m k:Nat) (y:Int),(l.length:Int)=y+m→0≤y→shape_Rest.l1 (m+1+k) T S C H K V L l low own y=if mks (zrB T S l) m y=true then shape_Rest.l2 k T S C H K V L l low own 0 else some false
 | 0,k,y,hy,h0=>by rw [show 0+1+k=k+1 by omega,shape_Rest.l1,if_neg (by omega)]; rfl
 | m+1,k,y,hy,h0=>by
  have hL:=lens hw.r
  have hN:lenI T S C H=1+T * S+(C+1) * (6+H):=rfl
  have hlen:=hw.len
  obtain ⟨tt,a,b,e,h2⟩:=where_iff hw.r h0 (show y<lenI T S C H by omega)
  have ih:=hw.l1 low own m k (y+1) (by omega) (by omega)
  rw [show m+1+1+k=(m+1+k)+1 by omega,shape_Rest.l1,if_pos (by omega),e,wi64 (n:=y+1) (by omega) (by omega),mks_succ]
  simp only [Option.bind_some]
  by_cases h:tt=2
  ·obtain ⟨q1,q2⟩:=h2.1 h
   rw [if_pos h,if_pos h0,ih,show zrB T S l y=(rd l y == 0) from by unfold zrB; rw [decide_eq_true q1,decide_eq_true q2]; rfl]
   by_cases hz:rd l y=0
   ·rw [if_pos hz,hz]; rfl
   ·rw [if_neg hz,show (rd l y == 0)=false from beq_eq_false_iff_ne.2 hz]; rfl
  ·have:zrB T S l y=true:=by
    unfold zrB
    have:=fun q=>h (h2.2 q)
    by_cases q1:1≤y
    ·rw [decide_eq_false (show ¬ y<1+T * S from fun q=>this ⟨q1,q⟩)]; simp
    ·rw [decide_eq_false q1]; rfl
   rw [if_neg h,ih,this]
   rfl
def rzB (T S:Int) (l:List Int):Bool:=mks (fun y=>rd l y == 0) (T * S).toNat 1
theorem zr_rz (hw:Wd T S C H K V L l):mks (zrB T S l) l.length 0=rzB T S l:=by
 have hL:=lens hw.r
 have hlen:=hw.len
 have hN:lenI T S C H=1+T * S+(C+1) * (6+H):=rfl
 unfold rzB
 rw [Bool.eq_iff_iff,mks_iff,mks_iff]
 refine ⟨fun h y h1 h2=>?_,fun h y h1 h2=>?_⟩
 ·have:=h y (by omega) (by omega)
  unfold zrB at this
  rw [decide_eq_true h1,decide_eq_true (show y<1+T * S by omega)] at this
  exact this
 ·unfold zrB
  by_cases q:1≤y∧y<1+T * S
  ·rw [h y q.1 (by omega)]; simp
  ·by_cases q1:1≤y
   ·rw [decide_eq_false (show ¬ y<1+T * S from fun q2=>q ⟨q1,q2⟩)]; simp
   ·rw [decide_eq_false q1]; rfl
theorem Wd.reserved (hw:Wd T S C H K V L l) {t r:Int} (h0:0≤t) (h1:t<T) (h2:0≤r) (h3:r<S):sr04_Reserved.f T S C H K V L t r=some (1+t * S+r)∧0≤t * S∧t * S+S≤T * S:=by
 have hT:=hw.r.t
 have hS:=hw.r.s
 have hm:=mul_range (a:=t) (b:=S) (p:=8) (q:=8) h0 (by omega) (by omega) (by omega)
 have hle:(t+1) * S≤T * S:=Int.mul_le_mul_of_nonneg_right (by omega) (by omega)
 rw [Int.add_mul,Int.one_mul] at hle
 refine ⟨?_,hm.1,hle⟩
 unfold sr04_Reserved.f
 rw [ref04_Right_is,r7_iff.2 hw.r]
 simp only [Option.bind_some,if_true]
 rw [if_neg (by omega),if_neg (by omega),if_neg (by omega),decide_eq_false (show ¬ r≥S by omega)]
 simp only [Option.bind_some,Bool.false_eq_true,if_false]
 rw [wi64 (n:=t * S) (by omega) (by omega),wi64 (n:=1+t * S) (by omega) (by omega),wi64 (by omega) (by omega)]
theorem Wd.rl1 (hw:Wd T S C H K V L l) (l2:List S47) {t:Int} (h0:0≤t) (h1:t<T):∀ (m k:Nat) (x:Int),S=x+m→0≤x→sr21_Rest.l1 (m+1+k) T S C H K V L l l2 t x=if mks (fun r=>rd l (1+t * S+r) == 0) m x=true then sr21_Rest.l0 k T S C H K V L l l2 (t+1) else some false
 | 0,k,x,hx,hx0=>by
  have hT:=hw.r.t
  rw [show 0+1+k=k+1 by omega,sr21_Rest.l1,if_neg (by omega),wi64 (n:=t+1) (by omega) (by omega)]
  rfl
 | m+1,k,x,hx,hx0=>by
  have hS:=hw.r.s
  have hL:=lens hw.r
  have hlen:=hw.len
  have hN:lenI T S C H=1+T * S+(C+1) * (6+H):=rfl
  obtain ⟨e,e1,e2⟩:=hw.reserved h0 h1 hx0 (show x<S by omega)
  rw [show m+1+1+k=(m+1+k)+1 by omega,sr21_Rest.l1,if_pos (by omega),e,wi64 (n:=x+1) (by omega) (by omega),hw.rl1 l2 h0 h1 m k (x+1) (by omega) (by omega),mks_succ]
  simp only [Option.bind_some]
  rw [if_pos (by omega),if_pos (by omega)]
  by_cases hz:rd l (1+t * S+x)=0
  ·rw [if_pos hz,hz]; rfl
  ·rw [if_neg hz,show (rd l (1+t * S+x) == 0)=false from beq_eq_false_iff_ne.2 hz]; rfl
theorem Wd.rl0 (hw:Wd T S C H K V L l) (l2:List S47):∀ (m k:Nat) (t:Int),T=t+m→0≤t→sr21_Rest.l0 (m * (S.toNat+2)+1+k) T S C H K V L l l2 t=if mks (fun t=>mks (fun r=>rd l (1+t * S+r) == 0) S.toNat 0) m t=true then sr21_Rest.l2 k T S C H K V L l l2 0 else some false
 | 0,k,t,ht,h0=>by rw [show 0 * (S.toNat+2)+1+k=k+1 by omega,sr21_Rest.l0,if_neg (by omega)]; rfl
 | m+1,k,t,ht,h0=>by
  have hS:=hw.r.s
  have e:(m+1) * (S.toNat+2)+1+k=(S.toNat+1+(m * (S.toNat+2)+1+k))+1:=by rw [Nat.succ_mul]; omega
  rw [e,sr21_Rest.l0,if_pos (by omega),hw.rl1 l2 h0 (by omega) S.toNat _ 0 (by omega) (Int.le_refl _),hw.rl0 l2 m k (t+1) (by omega) (by omega),mks_succ]
  cases mks (fun r=>rd l (1+t * S+r) == 0) S.toNat 0 <;> rfl
theorem rr_rz (hw:Wd T S C H K V L l):mks (fun t=>mks (fun r=>rd l (1+t * S+r) == 0) S.toNat 0) T.toNat 0=rzB T S l:=by
 have hL:=lens hw.r
 have hS:=hw.r.s
 have hT:=hw.r.t
 unfold rzB
 rw [Bool.eq_iff_iff,mks_iff,mks_iff]
 refine ⟨fun h y h1 h2=>?_,fun h t h1 h2=>mks_iff.2 fun r h3 h4=>?_⟩
 ·have hd:=Int.mul_ediv_add_emod (y - 1) S
  have h3:=Int.emod_nonneg (y - 1) (show S≠0 by omega)
  have h4:=Int.emod_lt_of_pos (y - 1) (show 0<S by omega)
  have h5:0≤(y - 1) / S:=Int.ediv_nonneg (by omega) (by omega)
  have h6:(y - 1) / S<T:=Int.ediv_lt_of_lt_mul (by omega) (by omega)
  have:=mks_iff.1 (h ((y - 1) / S) h5 (by omega)) ((y - 1) % S) h3 (by omega)
  rw [Int.mul_comm] at hd
  rw [show 1+(y - 1) / S * S+(y - 1) % S=y by omega] at this
  exact this
 ·obtain ⟨_,e1,e2⟩:=hw.reserved h1 (show t<T by omega) h3 (show r<S by omega)
  exact h (1+t * S+r) (by omega) (by omega)
def lvB (T S C H K V L:Int) (l:List Int) (lev:Int):Bool:=(lvs T S C H K V L l lev).all (fun h=>(lvs T S C H K V L l 0).contains h && stB T S C H K V L l h)
theorem Wd.b3 (hw:Wd T S C H K V L l) (hR:RightB T S C H K V L l=true) {lev:Int} (h0:0≤lev) (h1:lev<H) {k:Nat} (hk:1500≤k) (κ:Unit→Option Bool):∀ ys:List (Int × Int),(∀ p∈ys,p.2∈lvs T S C H K V L l lev)→rng (shape_Rest.b3 k T S C H K V L l (lvs T S C H K V L l 0)) ys κ ()=if (ys.map (·.2)).all (fun h=>(lvs T S C H K V L l 0).contains h && stB T S C H K V L l h)=true then κ () else some false
 | [],_=>rfl
 | p :: ys,hm=>by
  have hH:=hw.r.h
  have hp:=hm p List.mem_cons_self
  have hh:=hw.mem hp
  have hlen:=hw.len_ (Int.le_refl 0) (show (0:Int)<H by omega)
  have unf:rng (shape_Rest.b3 k T S C H K V L l (lvs T S C H K V L l 0)) (p :: ys) κ ()=shape_Rest.b3 k T S C H K V L l (lvs T S C H K V L l 0) (fun s'=>rng (shape_Rest.b3 k T S C H K V L l (lvs T S C H K V L l 0)) ys κ s') p.1 p.2 ():=rfl
  have step:∀ κ':Unit→Option Bool,shape_Rest.b3 k T S C H K V L l (lvs T S C H K V L l 0) κ' p.1 p.2 ()=if ((lvs T S C H K V L l 0).contains p.2 && stB T S C H K V L l p.2)=true then κ' () else some false:=by
   intro κ'
   unfold shape_Rest.b3
   rw [contains_is (by omega) p.2 (by omega),hw.settled (by omega) hh.2.2.2 (RightB_tall hR h0 h1 hp) hk]
   cases (lvs T S C H K V L l 0).contains p.2 <;> cases stB T S C H K V L l p.2 <;> rfl
  rw [unf,step,hw.b3 hR h0 h1 hk κ ys (fun q hq=>hm q (List.mem_cons_of_mem _ hq)),List.map_cons,List.all_cons]
  cases ((lvs T S C H K V L l 0).contains p.2 && stB T S C H K V L l p.2) <;> rfl
theorem rd_rep0 (n:Nat) (j:Int):rd (List.replicate n (0:Int)) j=0:=by
 unfold rd
 rw [List.getD_eq_getElem?_getD,List.getElem?_replicate]
 split <;> rfl
def ownB (T S C H K V L:Int) (l own:List Int):Bool:=own.all (goodB T S C H K V L l) && mks (tmB T S C H K V L l own) C.toNat 1
theorem Wd.l2 (hw:Wd T S C H K V L l) (hR:RightB T S C H K V L l=true) {own:List Int} (ho:own.length≤500) (hu:∀ h∈own,0≤h∧h<18446744073709551616):∀ (m k:Nat) (x:Int),0≤x→(H - x).toNat=m→m+2001≤k→shape_Rest.l2 k T S C H K V L l (lvs T S C H K V L l 0) own x=some (mks (lvB T S C H K V L l) m x && ownB T S C H K V L l own)
 | m,0,x,_,_,h=>absurd h (by omega)
 | 0,k+1,x,hx,hm,hk=>by
  have hC:=hw.r.c
  rw [shape_Rest.l2,if_neg (by omega),wi64 (n:=C+1) (by omega) (by omega),if_pos (by omega),if_pos (by omega)]
  have:=hw.l4 ho hu own k 0 (List.replicate (Int.toNat (C+1)) 0) rfl (by rw [List.length_replicate]; omega) (fun j _ _=>by rw [rd_rep0]; rfl) (by omega)
  exact this
 | m+1,k+1,x,hx,hm,hk=>by
  have hH:=hw.r.h
  rw [shape_Rest.l2,if_pos (by omega),if_pos (hw.ok hx (by omega)),if_pos (by omega),hw.b3 hR hx (by omega) (by omega) _ _ (fun p hp=>List.mem_map.2 ⟨p,hp,rfl⟩),wi64 (n:=x+1) (by omega) (by omega),hw.l2 hR ho hu m k (x+1) (by omega) (by omega) (by omega),mks_succ]
  show (if lvB T S C H K V L l x=true then _ else _)=_
  cases lvB T S C H K V L l x <;> rfl
theorem Wd.rl4 (hw:Wd T S C H K V L l) {l2:List S47} (hb:l2.length≤500):∀ (rest:List S47) (k i:Nat) (xs:List Int),l2.drop i=rest→xs.length+rest.length≤1000→sr21_Rest.l4 (rest.length+1+k) T S C H K V L l l2 (i:Int) xs=sr21_Rest.l5 k T S C H K V L l (xs ++ rest.map (·.f0)) 1
 | [],k,i,xs,hd,hx=>by
  have h1:l2.length≤i:=List.drop_eq_nil_iff.1 hd
  rw [show ([]:List S47).length+1+k=k+1 by simp; omega,sr21_Rest.l4,if_neg (by omega)]
  simp
 | r :: rest,k,i,xs,hd,hx=>by
  obtain ⟨h1,h2,h3⟩:=drop_cons' hd
  have e1:rd_T47 l2 (i:Int)=r:=by unfold rd_T47; rw [Int.toNat_natCast,List.getD_eq_getElem?_getD,h2]; rfl
  have e2:IntKind.wrap .i64 ((i:Int)+1)=((i+1:Nat):Int):=by rw [wi64 (by omega) (by omega)]; rfl
  rw [List.length_cons] at hx
  rw [show (r :: rest).length+1+k=(rest.length+1+k)+1 by rw [List.length_cons]; omega,sr21_Rest.l4,if_pos (by omega),if_pos (by omega),if_pos (by omega),e1,e2,hw.rl4 hb rest k (i+1) _ h3 (by rw [List.length_append,List.length_singleton]; omega),List.map_cons,List.append_assoc]
  rfl
theorem Wd.rl3 (hw:Wd T S C H K V L l) (hR:RightB T S C H K V L l=true) (l2:List S47) {lev:Int} (h0:0≤lev) (h1:lev<H) {ys:List Int} (hys:ys.length≤100) (hm:∀ h∈ys,h∈lvs T S C H K V L l lev) {k:Nat} (hk:1500≤k):∀ (rest:List Int) (i:Nat),ys.drop i=rest→sr21_Rest.l3 (rest.length+1+k) T S C H K V L l l2 lev ys (i:Int)=if rest.all (fun h=>(lvs T S C H K V L l 0).contains h && stB T S C H K V L l h)=true then sr21_Rest.l2 k T S C H K V L l l2 (lev+1) else some false
 | [],i,hd=>by
  have hH:=hw.r.h
  have hl:ys.length≤i:=List.drop_eq_nil_iff.1 hd
  rw [show ([]:List Int).length+1+k=k+1 by simp; omega,sr21_Rest.l3,if_neg (by omega),wi64 (n:=lev+1) (by omega) (by omega)]
  rfl
 | h :: rest,i,hd=>by
  obtain ⟨hi,hg,hr⟩:=drop_cons' hd
  have e1:rd ys (i:Int)=h:=by unfold rd; rw [Int.toNat_natCast,List.getD_eq_getElem?_getD,hg]; rfl
  have e2:IntKind.wrap .i64 ((i:Int)+1)=((i+1:Nat):Int):=by rw [wi64 (by omega) (by omega)]; rfl
  have hp:=hm h (List.mem_of_getElem? hg)
  have hh:=hw.mem hp
  rw [show (h :: rest).length+1+k=(rest.length+1+k)+1 by rw [List.length_cons]; omega,sr21_Rest.l3,if_pos (by omega),if_pos (by omega),e1,hw.rsettled hh.1 (by omega) hh.2.2.2 (RightB_tall hR h0 h1 hp) (by omega),e2,hw.rl3 hR l2 h0 h1 hys hm hk rest (i+1) hr,List.all_cons]
  simp only [Option.bind_some]
  cases (lvs T S C H K V L l 0).contains h <;> cases stB T S C H K V L l h <;> rfl
theorem Wd.rl2 (hw:Wd T S C H K V L l) (hR:RightB T S C H K V L l=true) {l2:List S47} (hb:l2.length≤300) (hu:∀ h∈lvs T S C H K V L l 0 ++ l2.map (·.f0),0≤h∧h<18446744073709551616):∀ (m k:Nat) (x:Int),0≤x→(H - x).toNat=m→70 * m+2000≤k→sr21_Rest.l2 k T S C H K V L l l2 x=some (mks (lvB T S C H K V L l) m x && ownB T S C H K V L l (lvs T S C H K V L l 0 ++ l2.map (·.f0)))
 | m,0,x,_,_,h=>absurd h (by omega)
 | 0,k+1,x,hx,hm,hk=>by
  have hH:=hw.r.h
  have hlen:=hw.len_ (Int.le_refl 0) (show (0:Int)<H by omega)
  obtain ⟨k',rfl⟩:∃ k',k=l2.length+1+k':=⟨k - l2.length - 1,by omega⟩
  have e4:=hw.rl4 (l2:=l2) (by omega) l2 k' 0 (lvs T S C H K V L l 0) rfl (by omega)
  rw [show ((0:Nat):Int)=0 from rfl] at e4
  rw [sr21_Rest.l2,if_neg (by omega),hw.rlevel (by omega) (Int.le_refl 0) (by omega)]
  simp only [Option.bind_some]
  rw [e4,hw.rl5' (by rw [List.length_append,List.length_map]; omega) hu (by omega)]
  rfl
 | m+1,k+1,x,hx,hm,hk=>by
  have hH:=hw.r.h
  have hlen:=hw.len_ hx (show x<H by omega)
  obtain ⟨k',rfl⟩:∃ k',k=(lvs T S C H K V L l x).length+1+k':=⟨k - (lvs T S C H K V L l x).length - 1,by omega⟩
  have e3:=hw.rl3 hR l2 hx (show x<H by omega) (ys:=lvs T S C H K V L l x) (by omega) (fun h hh=>hh) (k:=k') (by omega) (lvs T S C H K V L l x) 0 rfl
  rw [show ((0:Nat):Int)=0 from rfl] at e3
  rw [sr21_Rest.l2,if_pos (by omega),hw.rlevel (by omega) hx (by omega)]
  simp only [Option.bind_some]
  rw [e3,hw.rl2 hR hb hu m k' (x+1) (by omega) (by omega) (by omega),mks_succ]
  show (if lvB T S C H K V L l x=true then _ else _)=_
  cases lvB T S C H K V L l x <;> rfl
def RestB (T S C H K V L:Int) (l es:List Int):Bool:=RightB T S C H K V L l && (rzB T S l && (mks (lvB T S C H K V L l) H.toNat 0 && ownB T S C H K V L l (lvs T S C H K V L l 0 ++ es)))
theorem Wd.l0 (hw:Wd T S C H K V L l) (low:List Int) {es:List S53} (hb:es.length≤300):∀ (rest:List S53) (k i:Nat) (xs:List Int),es.drop i=rest→xs.length+rest.length≤1000→shape_Rest.l0 (rest.length+1+k) T S C H K V L l low es (i:Int) xs=shape_Rest.l1 k T S C H K V L l low (xs ++ rest.map (·.f0)) 0
 | [],k,i,xs,hd,hx=>by
  have h1:es.length≤i:=List.drop_eq_nil_iff.1 hd
  rw [show ([]:List S53).length+1+k=k+1 by simp; omega,shape_Rest.l0,if_neg (by omega)]
  simp
 | r :: rest,k,i,xs,hd,hx=>by
  obtain ⟨h1,h2,h3⟩:=drop_cons' hd
  have e1:rd_T53 es (i:Int)=r:=by unfold rd_T53; rw [Int.toNat_natCast,List.getD_eq_getElem?_getD,h2]; rfl
  have e2:IntKind.wrap .i64 ((i:Int)+1)=((i+1:Nat):Int):=by rw [wi64 (by omega) (by omega)]; rfl
  rw [List.length_cons] at hx
  rw [show (r :: rest).length+1+k=(rest.length+1+k)+1 by rw [List.length_cons]; omega,shape_Rest.l0,if_pos (by omega),if_pos (by omega),if_pos (by omega),e1,e2,hw.l0 low hb rest k (i+1) _ h3 (by rw [List.length_append,List.length_singleton]; omega),List.map_cons,List.append_assoc]
  rfl
theorem Wd.Rest (hw:Wd T S C H K V L l) {k:Nat} (hk:2900≤k) (hl:l.length≤400) {ll:List (List S53)} (h1:ll.length≤100) (h2:ll.flatten.length≤100) (hu:∀ e∈ll.flatten,0≤e.f0∧e.f0<18446744073709551616):shape_Rest.f k T S C H K V L l ll=some (RestB T S C H K V L l (ll.flatten.map (·.f0))):=by
 have hH:=hw.r.h
 have hlen:=hw.len_ (Int.le_refl 0) (show (0:Int)<H by omega)
 unfold shape_Rest.f RestB
 rw [hw.Right (k:=k) (by omega)]
 simp only [Option.bind_some]
 cases hR:RightB T S C H K V L l with
 | false=>rfl
 | true =>
  rw [if_pos rfl,hw.level (k:=k) (by omega) (Int.le_refl 0) (by omega)]
  simp only [Option.bind_some]
  rw [if_pos (by omega),concat_is (k:=k) h1 (by omega) (by omega)]
  simp only [Option.bind_some]
  generalize ll.flatten=es at h2 hu
  have ho:(lvs T S C H K V L l 0 ++ es.map (·.f0)).length≤500:=by rw [List.length_append,List.length_map]; omega
  have hou:∀ h∈lvs T S C H K V L l 0 ++ es.map (·.f0),0≤h∧h<18446744073709551616:=fun h hh=>by
   rcases List.mem_append.1 hh with hh | hh
   ·have:=hw.mem hh; omega
   ·obtain ⟨e,he,rfl⟩:=List.mem_map.1 hh; exact hu e he
  have e0:=hw.l0 (lvs T S C H K V L l 0) (es:=es) (by omega) es (k - 1 - es.length) 0 (lvs T S C H K V L l 0) rfl (by omega)
  rw [show es.length+1+(k - 1 - es.length)=k by omega,show ((0:Nat):Int)=0 from rfl] at e0
  have e1:=hw.l1 (lvs T S C H K V L l 0) (lvs T S C H K V L l 0 ++ es.map (·.f0)) l.length (k - 2 - es.length - l.length) 0 (by omega) (Int.le_refl 0)
  rw [show l.length+1+(k - 2 - es.length - l.length)=k - 1 - es.length by omega] at e1
  rw [e0,e1,zr_rz hw,hw.l2 hR ho hou H.toNat _ 0 (Int.le_refl 0) (by omega) (by omega)]
  cases rzB T S l <;> rfl
theorem Wd.rRest (hw:Wd T S C H K V L l) {k:Nat} (hk:2900≤k) {l2:List S47} (h2:l2.length≤100) (hu:∀ e∈l2,0≤e.f0∧e.f0<18446744073709551616):sr21_Rest.f k T S C H K V L l l2=some (RestB T S C H K V L l (l2.map (·.f0))):=by
 have hH:=hw.r.h
 have hT:=hw.r.t
 have hS:=hw.r.s
 unfold sr21_Rest.f RestB
 rw [hw.rRight (k:=k) (by omega)]
 simp only [Option.bind_some]
 cases hR:RightB T S C H K V L l with
 | false=>rfl
 | true =>
  have hou:∀ h∈lvs T S C H K V L l 0 ++ l2.map (·.f0),0≤h∧h<18446744073709551616:=fun h hh=>by
   rcases List.mem_append.1 hh with hh | hh
   ·have:=hw.mem hh; omega
   ·obtain ⟨e,he,rfl⟩:=List.mem_map.1 hh; exact hu e he
  have hm:T.toNat * (S.toNat+2)≤8 * 10:=Nat.mul_le_mul (by omega) (by omega)
  have e0:=hw.rl0 l2 T.toNat (k - 1 - T.toNat * (S.toNat+2)) 0 (by omega) (Int.le_refl 0)
  rw [show T.toNat * (S.toNat+2)+1+(k - 1 - T.toNat * (S.toNat+2))=k by omega] at e0
  rw [if_pos rfl,e0,rr_rz hw,hw.rl2 hR (by omega) hou H.toNat _ 0 (Int.le_refl 0) (by omega) (by omega)]
  cases rzB T S l <;> rfl
theorem noRest (h:¬ (R7 T S C H K V L∧(l.length:Int)=lenI T S C H)) (ll:List (List S53)) (l2:List S47) (k:Nat):shape_Rest.f k T S C H K V L l ll=some false∧sr21_Rest.f k T S C H K V L l l2=some false:=by
 have e:(r7 T S C H K V L && decide ((l.length:Int)=lenI T S C H))=false:=by
  rw [← Bool.not_eq_true,Bool.and_eq_true,decide_eq_true_eq,r7_iff]
  exact h
 constructor
 ·unfold shape_Rest.f shape_Right.f
  rw [whole_is,e]
  rfl
 ·have hwh:sr21_whole.f T S C H K V L l=some false:=by
   unfold sr21_whole.f
   rw [ref04_Right_is,ref04_Len_is]
   simp only [Option.bind_some]
   cases h7:r7 T S C H K V L with
   | false=>rfl
   | true =>
    rw [h7,Bool.true_and] at e
    simp only [if_true,Option.bind_some]
    rw [show ((l.length:Int) == lenI T S C H)=false from beq_eq_false_iff_ne.2 (of_decide_eq_false e)]
  unfold sr21_Rest.f sr21_Right.f
  rw [hwh]
  rfl
end
end Go.Eng
namespace Go.Eng
open Go.Proofs Go.RowKit Go.Proofs.YtgbcnokeaaabfaaGreatW.PrintWords
set_option linter.unusedVariables false
set_option linter.unusedSimpArgs false
theorem packed_is {s g:Int} (hs0:0≤s) (hs1:s<4) (h0:0≤g) (h1:g<1073741824):slot_word_packed.f s g=some (4 * g+s):=by
 have key:∀ n s:Nat,n<1073741824→s<4→(IntKind.wrap .u64 (BitVec.ofInt (IntKind.bits .u64) (4 * (n:Int)) ||| BitVec.ofInt (IntKind.bits .u64) (s:Int)).toNat:Int)=4 * (n:Int)+s:=by
  intro n s hn hs
  have e:(BitVec.ofInt 64 (4 * (n:Int)) ||| BitVec.ofInt 64 (s:Int)).toNat=4 * n+s:=by
   rw [BitVec.toNat_or,show (4 * (n:Int))=((4 * n:Nat):Int) by omega,BitVec.ofInt_natCast,BitVec.ofInt_natCast,BitVec.toNat_ofNat,BitVec.toNat_ofNat,Nat.mod_eq_of_lt (by omega),Nat.mod_eq_of_lt (by omega)]
   have:=Nat.shiftLeft_add_eq_or_of_lt (show s<2 ^ 2 by omega) n
   rw [Nat.shiftLeft_eq,show n * 2 ^ 2=4 * n by omega] at this
   exact this.symm
  rw [show IntKind.bits .u64=64 from rfl,e,wu64 (by omega) (by omega)]
  omega
 unfold slot_word_packed.f
 have e2:((2:Int) ^ (min (Int.toNat 2) (IntKind.bits .u64)))=4:=by decide
 have:=key g.toNat s.toNat (by omega) (by omega)
 rw [show ((g.toNat:Nat):Int)=g by omega,show ((s.toNat:Nat):Int)=s by omega] at this
 rw [wu64 h0 (by omega),e2,wu64 (n:=g * 4) (by omega) (by omega),wu64 hs0 (by omega),show g * 4=4 * g by omega,this]
def gn (x:Int):Int:=if x / 4 > 1073741823 then 1073741823 else x / 4
theorem gn_range {x:Int} (h0:0≤x):0≤gn x∧gn x<1073741824:=by
 unfold gn
 split <;> omega
theorem sgen_is {x:Int} (h0:0≤x) (h1:x<18446744073709551616):slot_Gen.f x=some (gn x):=by
 unfold slot_Gen.f gn
 have e:((2:Int) ^ (min (Int.toNat 2) (IntKind.bits .u64)))=4:=by decide
 rw [e,Int.fdiv_eq_ediv_of_nonneg _ (by decide)]
 by_cases q:x / 4 > 1073741823
 ·rw [if_pos q]
  rfl
 ·rw [if_neg q,wi64 (by omega) (by omega)]
theorem rgen_is {x:Int} (h0:0≤x) (h1:x<18446744073709551616):sr02_Gen.f x=some (gn x):=by
 unfold sr02_Gen.f gn
 rw [Int.tdiv_eq_ediv_of_nonneg h0,wu64 (n:=x / 4) (by omega) (by omega)]
 by_cases q:x / 4 > 1073741823
 ·rw [if_pos q,if_pos q]
 ·rw [if_neg q,if_neg q,wi64 (by omega) (by omega)]
def af (g L:Int):Int:=if g≥L then 4 * L+2 else 4 * g+4
theorem after_is {g L:Int} (h0:0≤g) (h1:g<1073741824) (l0:0≤L) (l1:L≤1073741823):slot_After.f g L=some (af g L):=by
 unfold slot_After.f af
 have e:(if (0:Int)<(if (1073741823:Int)<L then 1073741823 else L) then (if (1073741823:Int)<L then 1073741823 else L) else 0)=L:=by
  rw [if_neg (show ¬ (1073741823:Int)<L by omega)]
  split <;> omega
 rw [e,if_neg (show ¬ g<0 by omega)]
 by_cases q:g≥L
 ·rw [if_pos q,if_pos q,packed_is (by decide) (by decide) l0 (by omega)]
  rfl
 ·rw [if_neg q,if_neg q,wi64 (n:=g+1) (by omega) (by omega),packed_is (by decide) (by decide) (by omega) (by omega)]
  simp only [Option.bind_some]
  congr 1
  omega
theorem rafter_is {g L:Int} (h0:0≤g) (h1:g<1073741824) (l0:0≤L) (l1:L≤1073741823):sr02_After.f g L=some (af g L):=by
 unfold sr02_After.f af
 rw [if_neg (show ¬ g<0 by omega),if_neg (show ¬ L<0 by omega)]
 simp only [Option.bind_some]
 rw [if_neg (show ¬ L > 1073741823 by omega)]
 simp only [Option.bind_some]
 by_cases q:g≥L
 ·rw [if_pos q,if_pos q,wi64 (n:=4 * L) (by omega) (by omega),wi64 (by omega) (by omega),wu64 (by omega) (by omega)]
 ·rw [if_neg q,if_neg q,wi64 (n:=4 * g) (by omega) (by omega),wi64 (by omega) (by omega),wu64 (by omega) (by omega)]
def hdl (a g:Int):Int:=9223372036854775808+4294967296 * g+a
theorem or64_add {x y m:Nat} (hx:x * 2 ^ m<18446744073709551616) (hy:y<2 ^ m) (hs:x * 2 ^ m+y<18446744073709551616):or64 ((x * 2 ^ m:Nat):Int) (y:Int)=((x * 2 ^ m+y:Nat):Int):=by
 have e:(BitVec.ofInt 64 ((x * 2 ^ m:Nat):Int) ||| BitVec.ofInt 64 (y:Int)).toNat=x * 2 ^ m+y:=by
  rw [BitVec.toNat_or,BitVec.ofInt_natCast,BitVec.ofInt_natCast,BitVec.toNat_ofNat,BitVec.toNat_ofNat,Nat.mod_eq_of_lt (show x * 2 ^ m<2 ^ 64 from hx),Nat.mod_eq_of_lt (show y<2 ^ 64 by omega)]
  have:=Nat.shiftLeft_add_eq_or_of_lt hy x
  rw [Nat.shiftLeft_eq] at this
  exact this.symm
 unfold or64
 rw [show IntKind.bits .u64=64 from rfl,e,wu64 (by omega) (by omega)]
theorem wth_is {n m:Int} (h0:0≤n) (h1:n≤m):wth n m=n:=by
 unfold wth handle_within.f
 simp only [Option.getD_some]
 repeat (first | omega | split)
theorem pk0_is {a g:Int} (a0:0≤a) (a1:a<4294967296) (g0:0≤g) (g1:g<1073741824):pk0 a g=(hdl a g,true):=by
 unfold pk0
 rw [wth_is a0 (by omega),wth_is g0 (by omega),if_pos (by simp)]
 have e1:h9 a g 1=9223372036854775808:=by
  show or64 0 9223372036854775808=_
  decide
 have e2:h9 a g 2=9223372036854775808+4294967296 * g:=by
  show or64 (h9 a g 1) (IntKind.wrap .u64 ((IntKind.wrap .u64 g) * 2 ^ (min (Int.toNat 32) (IntKind.bits .u64))))=_
  have e:((2:Int) ^ (min (Int.toNat 32) (IntKind.bits .u64)))=4294967296:=by decide
  rw [e1,e,wu64 g0 (by omega),wu64 (n:=g * 4294967296) (by omega) (by omega)]
  have:=or64_add (x:=1) (y:=(g * 4294967296).toNat) (m:=63) (by decide) (by omega) (by omega)
  rw [show ((1 * 2 ^ 63:Nat):Int)=9223372036854775808 by decide,show (((g * 4294967296).toNat:Nat):Int)=g * 4294967296 by omega] at this
  rw [this]
  omega
 have e3:h9 a g 3=hdl a g:=by
  show or64 (h9 a g 2) (IntKind.wrap .u64 a)=_
  rw [e2,wu64 a0 (by omega)]
  have:=or64_add (x:=2147483648+g.toNat) (y:=a.toNat) (m:=32) (by omega) (by omega) (by omega)
  rw [show (((2147483648+g.toNat) * 2 ^ 32:Nat):Int)=9223372036854775808+4294967296 * g by omega,show ((a.toNat:Nat):Int)=a by omega] at this
  rw [this]
  unfold hdl
  omega
 rw [e3]
theorem of_hdl {a g:Int} (a0:0≤a) (a1:a<4294967296) (g0:0≤g) (g1:g<1073741824):sr01_Of.f a g=some (hdl a g):=by
 unfold sr01_Of.f sr01_Pack.f hdl
 rw [if_neg (by omega),if_neg (by omega),if_neg (by omega),decide_eq_false (show ¬ g > 1073741823 by omega)]
 simp only [Option.bind_some,Bool.false_eq_true,if_false]
 rw [wu64 g0 (by omega),wu64 (n:=4294967296 * g) (by omega) (by omega),wu64 (n:=9223372036854775808+4294967296 * g) (by omega) (by omega),wu64 a0 (by omega),wu64 (by omega) (by omega)]
section
variable {T S C H K V L:Int} {l:List Int}
theorem Wd.set (hw:Wd T S C H K V L l) {i f v:Int} (hv:0≤v∧v<18446744073709551616):Wd T S C H K V L (l.set (Int.toNat (cellI T S H i f)) v) :=
 ⟨hw.r,by rw [List.length_set]; exact hw.len,fun x hx=>by
  rcases List.mem_or_eq_of_mem_set hx with hx | rfl
  ·exact hw.u x hx
  ·exact hv⟩
theorem Wd.cell (hw:Wd T S C H K V L l) {i f:Int} (h0:0≤i) (h1:i≤C) (h2:0≤f) (h3:f<6+H):plan_Cell.f T S C H K V L i f=some (cellI T S H i f)∧sr04_Cell.f T S C H K V L i f=some (cellI T S H i f)∧0≤cellI T S H i f∧cellI T S H i f<(l.length:Int):=by
 have hf:isF C H i f=true:=isF_iff.2 ⟨h0,h1,h2,h3⟩
 have hc:=cells hw.r h0 h1 h2 h3
 refine ⟨?_,?_,hc.1,by rw [hw.len]; exact hc.2.1⟩
 ·rw [plan_Cell_is,r7_iff.2 hw.r,hf]; rfl
 ·rw [ref04_Cell_is,r7_iff.2 hw.r,hf]; rfl
theorem Wd.rdu (hw:Wd T S C H K V L l) (j:Int):0≤rd l j∧rd l j<18446744073709551616:=rd_u64 hw.u j
theorem Wd.r22at (hw:Wd T S C H K V L l) {i f:Int} (h0:0≤i) (h1:i≤C) (h2:0≤f) (h3:f<6+H):sr22_at.f T S C H K V L l i f=some (rd l (cellI T S H i f)):=by
 obtain ⟨_,e,c0,c1⟩:=hw.cell h0 h1 h2 h3
 unfold sr22_at.f
 rw [e]
 simp only [Option.bind_some]
 rw [if_pos c0,if_pos c1]
theorem Wd.r22with (hw:Wd T S C H K V L l) {i f:Int} (h0:0≤i) (h1:i≤C) (h2:0≤f) (h3:f<6+H) (v:Int):sr22_with.f T S C H K V L l i f v=some (l.set (Int.toNat (cellI T S H i f)) v):=by
 obtain ⟨_,e,c0,c1⟩:=hw.cell h0 h1 h2 h3
 have hL:=lens hw.r
 have hlen:=hw.len
 have hN:lenI T S C H=1+T * S+(C+1) * (6+H):=rfl
 unfold sr22_with.f
 rw [if_pos (by rw [List.length_nil]; omega),e]
 simp only [Option.bind_some,List.nil_append]
 rw [if_pos c0,if_pos c1]
def frF (T S H L i:Int) (l:List Int):List Int:=l.set (Int.toNat (cellI T S H i 0)) (af (gn (rd l (cellI T S H i 0))) L)
theorem af_range {g L:Int} (h0:0≤g) (h1:g<1073741824) (l0:0≤L) (l1:L≤1073741823):0≤af g L∧af g L<18446744073709551616:=by
 unfold af
 split <;> omega
theorem Wd.frees (hw:Wd T S C H K V L l) {i:Int} (h0:0≤i) (h1:i≤C) {n:Nat} (hn:l.length=n):pw_frees.f T S C H K V L n l i=some (frF T S H L i l)∧sr22_frees.f T S C H K V L l i=some (frF T S H L i l)∧Wd T S C H K V L (frF T S H L i l):=by
 have hH:=hw.r.h
 have hLL:=hw.r.l
 obtain ⟨e1,e2,c0,c1⟩:=hw.cell h0 h1 (Int.le_refl 0) (show (0:Int)<6+H by omega)
 have hu:=hw.rdu (cellI T S H i 0)
 have hg:=gn_range hu.1
 have ha:=af_range hg.1 hg.2 hLL.1 hLL.2
 refine ⟨?_,?_,hw.set ha⟩
 ·unfold pw_frees.f frF
  rw [e1]
  simp only [Option.bind_some]
  rw [if_pos c0,if_pos (by rw [← hn]; exact c1),sgen_is hu.1 hu.2]
  simp only [Option.bind_some]
  rw [after_is hg.1 hg.2 hLL.1 hLL.2]
  rfl
 ·unfold sr22_frees.f frF
  rw [hw.r22at h0 h1 (Int.le_refl 0) (by omega)]
  simp only [Option.bind_some]
  rw [rgen_is hu.1 hu.2]
  simp only [Option.bind_some]
  rw [rafter_is hg.1 hg.2 hLL.1 hLL.2]
  simp only [Option.bind_some]
  rw [hw.r22with h0 h1 (Int.le_refl 0) (by omega)]
  rfl
def lw (T S H:Int) (l:List Int):Nat→Int→Int
 | 0,_=>0
 | n+1,x=>if rd l (cellI T S H x 0) % 4=0 then x else lw T S H l n (x+1)
theorem lw_succ (T S H:Int) (l:List Int) (n:Nat) (x:Int):lw T S H l (n+1) x=if rd l (cellI T S H x 0) % 4=0 then x else lw T S H l n (x+1):=rfl
theorem lw_range (T S H:Int) (l:List Int):∀ (n:Nat) (x:Int),1≤x→lw T S H l n x=0∨(x≤lw T S H l n x∧lw T S H l n x<x+n)
 | 0,x,_ => .inl rfl
 | n+1,x,hx=>by
  unfold lw
  split
  ·exact .inr ⟨Int.le_refl x,by omega⟩
  ·rcases lw_range T S H l n (x+1) (by omega) with h | h
   ·exact .inl h
   ·exact .inr ⟨by omega,by omega⟩
theorem Wd.lowest_l0 (hw:Wd T S C H K V L l) {b:Int} (hb:b≤C+1) {nn:Nat} (hn:l.length=nn):∀ (m k:Nat) (x:Int),1≤x→(b - x).toNat=m→m<k→pw_lowest.l0 k T S C H K V L nn l b x=some (lw T S H l m x,l)
 | m,0,x,_,_,h=>absurd h (by omega)
 | 0,k+1,x,hx,hm,hk=>by rw [pw_lowest.l0,if_neg (by omega)]; rfl
 | m+1,k+1,x,hx,hm,hk=>by
  have hH:=hw.r.h
  have hC:=hw.r.c
  obtain ⟨e1,e2,c0,c1⟩:=hw.cell (i:=x) (f:=0) (by omega) (by omega) (by omega) (by omega)
  have hu:=hw.rdu (cellI T S H x 0)
  rw [pw_lowest.l0,if_pos (by omega),if_pos (show x > 0 by omega),e1]
  simp only [Option.bind_some]
  rw [if_pos c0,if_pos (by rw [← hn]; exact c1),state_is hu.1 hu.2,wi64 (n:=x+1) (by omega) (by omega),hw.lowest_l0 hb hn m k (x+1) (by omega) (by omega) (by omega)]
  simp only [Option.bind_some]
  rw [lw_succ]
  by_cases q:rd l (cellI T S H x 0) % 4=0
  ·rw [if_pos q,q]; rfl
  ·rw [if_neg q,show (rd l (cellI T S H x 0) % 4 == 0)=false from beq_eq_false_iff_ne.2 q]
   rw [if_neg (by decide)]
theorem Wd.lowest (hw:Wd T S C H K V L l) {b:Int} (hb0:1≤b) (hb:b≤C+1) {nn:Nat} (hn:l.length=nn) {k:Nat} (hk:100≤k):pw_lowest.f k T S C H K V L nn l b=some (lw T S H l (b - 1).toNat 1,l):=by
 have hC:=hw.r.c
 obtain ⟨k,rfl⟩:∃ z,k=z+1:=⟨k - 1,by omega⟩
 unfold pw_lowest.f
 rw [pw_lowest.l0,if_pos (by omega),if_neg (by decide)]
 exact hw.lowest_l0 hb hn (b - 1).toNat k 1 (Int.le_refl _) rfl (by omega)
theorem Wd.rlowest_l0 (hw:Wd T S C H K V L l) {b:Int} (hb:b≤C+1):∀ (m k:Nat) (x:Int),1≤x→(b - x).toNat=m→m<k→sr22_lowest.l0 k T S C H K V L l b x=some (lw T S H l m x)
 | m,0,x,_,_,h=>absurd h (by omega)
 | 0,k+1,x,hx,hm,hk=>by rw [sr22_lowest.l0,if_neg (by omega)]; rfl
 | m+1,k+1,x,hx,hm,hk=>by
  have hH:=hw.r.h
  have hC:=hw.r.c
  have hu:=hw.rdu (cellI T S H x 0)
  rw [sr22_lowest.l0,if_pos (by omega),hw.r22at (by omega) (by omega) (by omega) (by omega)]
  simp only [Option.bind_some]
  rw [ref_state hu.1,wi64 (n:=x+1) (by omega) (by omega),hw.rlowest_l0 hb m k (x+1) (by omega) (by omega) (by omega)]
  simp only [Option.bind_some]
  rw [lw_succ]
  by_cases q:rd l (cellI T S H x 0) % 4=0
  ·rw [if_pos q,if_pos q]
  ·rw [if_neg q,if_neg q]
theorem Wd.rlowest (hw:Wd T S C H K V L l) {b:Int} (hb:b≤C+1) {k:Nat} (hk:100≤k):sr22_lowest.f k T S C H K V L l b=some (lw T S H l (b - 1).toNat 1):=by
 have hC:=hw.r.c
 exact hw.rlowest_l0 hb (b - 1).toNat k 1 (Int.le_refl _) rfl (by omega)
end
end Go.Eng
namespace Go.Eng
open Go.Proofs Go.RowKit Go.Proofs.YtgbcnokeaaabfaaGreatW.PrintWords
set_option linter.unusedVariables false
set_option linter.unusedSimpArgs false
section
variable {T S C H K V L:Int} {l:List Int}
def cpy (T S H a b:Int):Nat→Int→List Int→List Int
 | 0,_,xs=>xs
 | n+1,x,xs=>cpy T S H a b n (x+1) (xs.set (Int.toNat (cellI T S H b x)) (rd xs (cellI T S H a x)))
theorem rd_set2 (hw:Wd T S C H K V L l) {i f a b v:Int} (h0:0≤i) (h1:i≤C) (h2:0≤f) (h3:f<6+H) (g0:0≤a) (g1:a≤C) (g2:0≤b) (g3:b<6+H):rd (l.set (Int.toNat (cellI T S H i f)) v) (cellI T S H a b)=if i=a∧f=b then v else rd l (cellI T S H a b):=by
 obtain ⟨_,_,c0,c1⟩:=hw.cell h0 h1 h2 h3
 obtain ⟨_,_,d0,d1⟩:=hw.cell g0 g1 g2 g3
 rw [rd_set (by omega)]
 by_cases e:i=a∧f=b
 ·rw [if_pos e,if_pos (by rw [e.1,e.2])]
 ·rw [if_neg e,if_neg (fun e2=>e (cell_inj (isF_iff.2 ⟨h0,h1,h2,h3⟩) (isF_iff.2 ⟨g0,g1,g2,g3⟩) (show cellI T S H i f=cellI T S H a b by omega)))]
theorem cpy_ok {a b:Int} (ha0:0≤a) (ha:a≤C) (hb0:0≤b) (hb:b≤C) (hab:b≠a):∀ (m:Nat) (x:Int) {xs:List Int},Wd T S C H K V L xs→1≤x→x+m≤6+H→Wd T S C H K V L (cpy T S H a b m x xs)∧(cpy T S H a b m x xs).length=xs.length∧∀ i,0≤i→i≤C→rd (cpy T S H a b m x xs) (cellI T S H i 0)=rd xs (cellI T S H i 0)
 | 0,x,xs,hw,_,_=>⟨hw,rfl,fun _ _ _=>rfl⟩
 | m+1,x,xs,hw,hx,hm=>by
  have h1:=hw.set (i:=b) (f:=x) (hw.rdu (cellI T S H a x))
  obtain ⟨q1,q2,q3⟩:=cpy_ok ha0 ha hb0 hb hab m (x+1) h1 (by omega) (by omega)
  refine ⟨q1,by have q:=q2; rw [List.length_set] at q; exact q,fun i hi0 hi=>?_⟩
  have:=q3 i hi0 hi
  rw [rd_set2 hw hb0 hb (by omega) (by omega) hi0 hi (Int.le_refl 0) (by omega),if_neg (by omega)] at this
  exact this
def mvF (T S H L a b:Int) (l:List Int):List Int:=frF T S H L a ((cpy T S H a b (5+H).toNat 1 l).set (Int.toNat (cellI T S H b 0)) (4 * gn (rd l (cellI T S H b 0))+1))
def oldF (T S H a:Int) (l:List Int):Int:=hdl a (gn (rd l (cellI T S H a 0)))
theorem Wd.moves_l0 (a b u v:Int) (ha0:0≤a) (ha:a≤C) (hb0:0≤b) (hb:b≤C) (hab:b≠a) {nn:Nat} {g:Int} (hg0:0≤g) (hg1:g<1073741824):∀ (m k:Nat) (x:Int) {xs:List Int},Wd T S C H K V L xs→xs.length=nn→gn (rd xs (cellI T S H b 0))=g→1≤x→x+m=6+H→m<k→pw_moves.l0 k T S C H K V L nn a b u v x xs=some (u,v,frF T S H L a ((cpy T S H a b m x xs).set (Int.toNat (cellI T S H b 0)) (4 * g+1)))
 | m,0,x,xs,_,_,_,_,_,h=>absurd h (by omega)
 | 0,k+1,x,xs,hw,hn,hgn,hx,hm,hk=>by
  have hH:=hw.r.h
  obtain ⟨e1,_,c0,c1⟩:=hw.cell (f:=0) hb0 hb (by omega) (by omega)
  have hu:=hw.rdu (cellI T S H b 0)
  rw [pw_moves.l0,if_neg (by rw [wi64 (n:=6+H) (by omega) (by omega)]; omega),e1]
  simp only [Option.bind_some]
  rw [if_pos c0,if_pos (by rw [← hn]; exact c1),sgen_is hu.1 hu.2,hgn]
  simp only [Option.bind_some]
  rw [meta_is hg0 hg1]
  simp only [Option.bind_some]
  have h2:=hw.set (i:=b) (f:=0) (v:=4 * g+1) (by omega)
  rw [if_pos c0,if_pos (by rw [← hn]; exact c1),(h2.frees ha0 ha (n:=nn) (by rw [List.length_set]; exact hn)).1]
  rfl
 | m+1,k+1,x,xs,hw,hn,hgn,hx,hm,hk=>by
  have hH:=hw.r.h
  obtain ⟨e1,_,c0,c1⟩:=hw.cell (f:=x) hb0 hb (by omega) (by omega)
  obtain ⟨e2,_,d0,d1⟩:=hw.cell (f:=x) ha0 ha (by omega) (by omega)
  have h1:=hw.set (i:=b) (f:=x) (hw.rdu (cellI T S H a x))
  rw [pw_moves.l0,if_pos (by rw [wi64 (n:=6+H) (by omega) (by omega)]; omega),e1,e2,wi64 (n:=x+1) (by omega) (by omega)]
  simp only [Option.bind_some]
  rw [if_pos d0,if_pos (by rw [← hn]; exact d1),if_pos c0,if_pos (by rw [← hn]; exact c1)]
  exact Wd.moves_l0 a b u v ha0 ha hb0 hb hab hg0 hg1 m k (x+1) h1 (by rw [List.length_set]; exact hn) (by rw [rd_set2 hw hb0 hb (by omega) (by omega) hb0 hb (Int.le_refl 0) (by omega),if_neg (by omega)]; exact hgn) (by omega) (by omega) (by omega)
theorem set_swap (hw:Wd T S C H K V L l) {i f a b v u:Int} (h0:0≤i) (h1:i≤C) (h2:0≤f) (h3:f<6+H) (g0:0≤a) (g1:a≤C) (g2:0≤b) (g3:b<6+H) (hne:¬ (i=a∧f=b)) (xs:List Int):(xs.set (Int.toNat (cellI T S H i f)) v).set (Int.toNat (cellI T S H a b)) u=(xs.set (Int.toNat (cellI T S H a b)) u).set (Int.toNat (cellI T S H i f)) v:=by
 obtain ⟨_,_,c0,c1⟩:=hw.cell h0 h1 h2 h3
 obtain ⟨_,_,d0,d1⟩:=hw.cell g0 g1 g2 g3
 exact List.set_comm _ _ (fun e=>hne (cell_inj (isF_iff.2 ⟨h0,h1,h2,h3⟩) (isF_iff.2 ⟨g0,g1,g2,g3⟩) (show cellI T S H i f=cellI T S H a b by omega)))
theorem Wd.rmoves_l0 (hwl:Wd T S C H K V L l) (a b u v:Int) (ha0:0≤a) (ha:a≤C) (hb0:0≤b) (hb:b≤C) (hab:b≠a) {z:Int} (hz:0≤z∧z<18446744073709551616):∀ (m k:Nat) (x:Int) {xs:List Int},Wd T S C H K V L xs→(∀ f,0≤f→f<6+H→rd xs (cellI T S H a f)=rd l (cellI T S H a f))→1≤x→x+m=6+H→m<k→sr22_moves.l0 k T S C H K V L l a b u v x (xs.set (Int.toNat (cellI T S H b 0)) z)=some (frF T S H L a ((cpy T S H a b m x xs).set (Int.toNat (cellI T S H b 0)) z),u,v)
 | m,0,x,xs,_,_,_,_,h=>absurd h (by omega)
 | 0,k+1,x,xs,hw,hrd,hx,hm,hk=>by
  have hH:=hw.r.h
  have h2:=hw.set (i:=b) (f:=0) (v:=z) hz
  rw [sr22_moves.l0,if_neg (by rw [wi64 (n:=6+H) (by omega) (by omega)]; omega),(h2.frees ha0 ha rfl).2.1]
  rfl
 | m+1,k+1,x,xs,hw,hrd,hx,hm,hk=>by
  have hH:=hw.r.h
  have h2:=hw.set (i:=b) (f:=0) (v:=z) hz
  have h1:=hw.set (i:=b) (f:=x) (hw.rdu (cellI T S H a x))
  rw [sr22_moves.l0,if_pos (by rw [wi64 (n:=6+H) (by omega) (by omega)]; omega),hwl.r22at ha0 ha (by omega) (by omega),wi64 (n:=x+1) (by omega) (by omega)]
  simp only [Option.bind_some]
  rw [h2.r22with hb0 hb (by omega) (by omega)]
  simp only [Option.bind_some]
  rw [set_swap hw hb0 hb (by omega) (by omega) hb0 hb (by omega) (by omega) (by omega) xs,← hrd x (by omega) (by omega)]
  exact hwl.rmoves_l0 a b u v ha0 ha hb0 hb hab hz m k (x+1) h1 (fun f hf0 hf1=>by rw [rd_set2 hw hb0 hb (by omega) (by omega) ha0 ha hf0 hf1,if_neg (by omega)]; exact hrd f hf0 hf1) (by omega) (by omega) (by omega)
theorem Wd.moves (hw:Wd T S C H K V L l) {a b:Int} (ha0:1≤a) (ha:a≤C) (hb0:1≤b) (hb:b≤C) (hab:b≠a) {nn:Nat} (hn:l.length=nn) {k:Nat} (hk:100≤k) :
  pw_moves.f k T S C H K V L nn l a b=some (oldF T S H a l,oldF T S H b l,mvF T S H L a b l)∧sr22_moves.f k T S C H K V L l a b=some (mvF T S H L a b l,oldF T S H a l,oldF T S H b l)∧Wd T S C H K V L (mvF T S H L a b l)∧(mvF T S H L a b l).length=l.length:=by
 have hH:=hw.r.h
 have hC:=hw.r.c
 obtain ⟨e1,_,c0,c1⟩:=hw.cell (i:=a) (f:=0) (by omega) ha (by omega) (by omega)
 obtain ⟨e2,_,d0,d1⟩:=hw.cell (i:=b) (f:=0) (by omega) hb (by omega) (by omega)
 have hu:=hw.rdu (cellI T S H a 0)
 have hv:=hw.rdu (cellI T S H b 0)
 have ga:=gn_range hu.1
 have gb:=gn_range hv.1
 have hcp:=cpy_ok (xs:=l) (by omega) ha (by omega) hb hab (5+H).toNat 1 hw (Int.le_refl 1) (by omega)
 have h2:=hcp.1.set (i:=b) (f:=0) (v:=4 * gn (rd l (cellI T S H b 0))+1) (by omega)
 have h3:=h2.frees (i:=a) (by omega) ha rfl
 refine ⟨?_,?_,h3.2.2,?_⟩
 ·unfold pw_moves.f handle_Pack0.f
  rw [e1,e2]
  simp only [Option.bind_some]
  rw [if_pos c0,if_pos (by rw [← hn]; exact c1),sgen_is hu.1 hu.2]
  simp only [Option.bind_some]
  rw [pk0_is (by omega) (by omega) ga.1 ga.2]
  simp only [Option.bind_some]
  rw [if_pos d0,if_pos (by rw [← hn]; exact d1),sgen_is hv.1 hv.2]
  simp only [Option.bind_some]
  rw [pk0_is (by omega) (by omega) gb.1 gb.2]
  simp only [Option.bind_some]
  exact Wd.moves_l0 a b _ _ (by omega) ha (by omega) hb hab gb.1 gb.2 (5+H).toNat k 1 hw hn rfl (Int.le_refl 1) (by omega) (by omega)
 ·unfold sr22_moves.f
  rw [hw.r22at (i:=a) (f:=0) (by omega) ha (by omega) (by omega),hw.r22at (i:=b) (f:=0) (by omega) hb (by omega) (by omega)]
  simp only [Option.bind_some]
  rw [rgen_is hu.1 hu.2,rgen_is hv.1 hv.2]
  simp only [Option.bind_some]
  rw [of_hdl (by omega) (by omega) ga.1 ga.2]
  simp only [Option.bind_some]
  rw [of_hdl (by omega) (by omega) gb.1 gb.2]
  simp only [Option.bind_some]
  rw [ref_taken gb.1 gb.2]
  simp only [Option.bind_some]
  rw [hw.r22with (by omega) hb (by omega) (by omega)]
  simp only [Option.bind_some]
  exact hw.rmoves_l0 a b _ _ (by omega) ha (by omega) hb hab (by omega) (5+H).toNat k 1 hw (fun _ _ _=>rfl) (Int.le_refl 1) (by omega) (by omega)
 ·unfold mvF frF
  rw [List.length_set,List.length_set]
  exact hcp.2.1
theorem mput_new:∀ (m:List (Int × Int)) (k v:Int),(∀ p∈m,p.1≠k)→mput m k v=m ++ [(k,v)]
 | [],k,v,_=>rfl
 | p :: r,k,v,h=>by
  unfold mput
  rw [if_neg (fun e=>h p List.mem_cons_self e.symm),mput_new r k v (fun q hq=>h q (List.mem_cons_of_mem _ hq))]
  rfl
def s79 (p:Int × Int):S79:=⟨p.1,p.2⟩
theorem mget_cons (p:Int × Int) (r:List (Int × Int)) (k:Int):mget (p :: r) k=if k=p.1 then some p.2 else mget r k:=rfl
theorem becomes_l0 {m:List (Int × Int)} (hb:m.length≤1000) (w:Int):∀ (rest:List (Int × Int)) (k i:Nat),m.drop i=rest→rest.length<k→sr22_becomes.l0 k (m.map s79) w (i:Int)=some ((mget rest w).getD w)
 | rest,0,i,_,h=>absurd h (by omega)
 | [],k+1,i,hd,_=>by
  have h1:m.length≤i:=List.drop_eq_nil_iff.1 hd
  rw [sr22_becomes.l0,if_neg (by rw [List.length_map]; omega)]
  rfl
 | r :: rest,k+1,i,hd,hk=>by
  obtain ⟨h1,h2,h3⟩:=drop_cons' hd
  have e1:rd_T79 (m.map s79) (i:Int)=s79 r:=by unfold rd_T79; rw [Int.toNat_natCast,List.getD_eq_getElem?_getD,List.getElem?_map,h2]; rfl
  have e2:IntKind.wrap .i64 ((i:Int)+1)=((i+1:Nat):Int):=by rw [wi64 (by omega) (by omega)]; rfl
  rw [List.length_cons] at hk
  rw [sr22_becomes.l0,if_pos (by rw [List.length_map]; omega),if_pos (by omega),e1,e2,becomes_l0 hb w rest k (i+1) h3 (by omega)]
  rw [mget_cons]
  by_cases q:r.1=w
  ·rw [if_pos q.symm,if_pos (show (s79 r).1=w from q)]; rfl
  ·rw [if_neg (show ¬ w=r.1 from fun e=>q e.symm),if_neg (show ¬ (s79 r).f0=w from q)]
theorem becomes_is {m:List (Int × Int)} (hb:m.length≤100) (w:Int) {k:Nat} (hk:200≤k):sr22_becomes.f k (m.map s79) w=some ((mget m w).getD w) :=
 becomes_l0 (by omega) w m k 0 rfl (by omega)
theorem set_rd {xs:List Int} {j:Int} (h0:0≤j) (h1:j<xs.length):xs.set j.toNat (rd xs j)=xs:=by
 unfold rd
 rw [List.getD_eq_getElem?_getD,List.getElem?_eq_getElem (by omega:j.toNat<xs.length)]
 exact List.set_getElem_self _
theorem mget_mem:∀ {m:List (Int × Int)} {w v:Int},mget m w=some v→(w,v)∈m
 | [],w,v,h=>by cases h
 | p :: r,w,v,h=>by
  unfold mget at h
  split at h
  ·rename_i e
   injection h with h
   rw [e,← h]
   exact List.mem_cons_self
  ·exact List.mem_cons_of_mem _ (mget_mem h)
theorem cells_l23 {nn:Nat} {mv:List (Int × Int)} (hmb:mv.length≤100) (hmu:∀ p∈mv,0≤p.2∧p.2<18446744073709551616) (base:List Int) (hbase:base.length=nn):∀ (n:Nat) (x:Int) {xs:List Int},Wd T S C H K V L xs→xs.length=nn→0≤x→(C+1 - x).toNat=n→∃ r,r.length=nn∧∀ k,n * 10+300≤k→pack_Cells.l2 k T S C H K V L base mv x xs=some (r,true)∧sr22_Cells.l2 k T S C H K V L (mv.map s79) x xs=some (r,true):=by
 intro n
 induction n with
 | zero =>
  intro x xs hw hn hx hm
  have hC:=hw.r.c
  refine ⟨xs,hn,fun k hk=>?_⟩
  obtain ⟨k,rfl⟩:∃ z,k=z+1:=⟨k - 1,by omega⟩
  rw [pack_Cells.l2,if_neg (by rw [wi64 (n:=C+1) (by omega) (by omega)]; omega),sr22_Cells.l2,if_neg (by omega)]
  exact ⟨rfl,rfl⟩
 | succ n ih =>
  intro x xs hw hn hx hm
  have hC:=hw.r.c
  have hH:=hw.r.h
  obtain ⟨e1,_,c0,c1⟩:=hw.cell (i:=x) (f:=0) hx (by omega) (by omega) (by omega)
  have hu:=hw.rdu (cellI T S H x 0)
  have inner:∀ (m:Nat) (y:Int) {xs:List Int},Wd T S C H K V L xs→xs.length=nn→0≤y→(H - y).toNat=m→∃ r,r.length=nn∧∀ k,m+n * 10+301≤k→pack_Cells.l3 k T S C H K V L base mv x y xs=some (r,true)∧sr22_Cells.l3 k T S C H K V L (mv.map s79) x y xs=some (r,true):=by
   intro m
   induction m with
   | zero =>
    intro y xs hw hn hy hm'
    obtain ⟨r,hr,h⟩:=ih (x+1) hw hn (by omega) (by omega)
    refine ⟨r,hr,fun k hk=>?_⟩
    obtain ⟨k,rfl⟩:∃ z,k=z+1:=⟨k - 1,by omega⟩
    rw [pack_Cells.l3,if_neg (by omega),sr22_Cells.l3,if_neg (by omega),wi64 (n:=x+1) (by omega) (by omega)]
    exact h k (by omega)
   | succ m ihm =>
    intro y xs hw hn hy hm'
    obtain ⟨e1,_,c0,c1⟩:=hw.cell (i:=x) (f:=6+y) hx (by omega) (by omega) (by omega)
    have hu:=hw.rdu (cellI T S H x (6+y))
    cases hg:mget mv (rd xs (cellI T S H x (6+y))) with
    | none =>
     obtain ⟨r,hr,h⟩:=ihm (y+1) hw hn (by omega) (by omega)
     refine ⟨r,hr,fun k hk=>?_⟩
     obtain ⟨k,rfl⟩:∃ z,k=z+1:=⟨k - 1,by omega⟩
     rw [pack_Cells.l3,if_pos (by omega),sr22_Cells.l3,if_pos (by omega),wi64 (n:=6+y) (by omega) (by omega),wi64 (n:=y+1) (by omega) (by omega),e1,hw.r22at hx (by omega) (by omega) (by omega)]
     simp only [Option.bind_some]
     rw [if_pos c0,if_pos (show cellI T S H x (6+y)<(base.length:Int) by omega),becomes_is hmb _ (by omega)]
     simp only [Option.bind_some]
     rw [hw.r22with hx (by omega) (by omega) (by omega)]
     simp only [Option.bind_some]
     rw [hg]
     simp only [Option.isSome_none,Bool.false_eq_true,if_false]
     rw [Option.getD_none,set_rd c0 c1]
     exact h k (by omega)
    | some v =>
     obtain ⟨r,hr,h⟩:=ihm (y+1) (hw.set (i:=x) (f:=6+y) (hmu _ (mget_mem hg))) (by rw [List.length_set]; exact hn) (by omega) (by omega)
     refine ⟨r,hr,fun k hk=>?_⟩
     obtain ⟨k,rfl⟩:∃ z,k=z+1:=⟨k - 1,by omega⟩
     rw [pack_Cells.l3,if_pos (by omega),sr22_Cells.l3,if_pos (by omega),wi64 (n:=6+y) (by omega) (by omega),wi64 (n:=y+1) (by omega) (by omega),e1,hw.r22at hx (by omega) (by omega) (by omega)]
     simp only [Option.bind_some]
     rw [if_pos c0,if_pos (show cellI T S H x (6+y)<(base.length:Int) by omega),becomes_is hmb _ (by omega)]
     simp only [Option.bind_some]
     rw [hw.r22with hx (by omega) (by omega) (by omega)]
     simp only [Option.bind_some]
     rw [hg]
     exact h k (by omega)
  by_cases q:rd xs (cellI T S H x 0) % 4=1
  ·obtain ⟨r,hr,h⟩:=inner H.toNat 0 hw hn (Int.le_refl 0) (by omega)
   refine ⟨r,hr,fun k hk=>?_⟩
   obtain ⟨k,rfl⟩:∃ z,k=z+1:=⟨k - 1,by omega⟩
   rw [pack_Cells.l2,if_pos (by rw [wi64 (n:=C+1) (by omega) (by omega)]; omega),sr22_Cells.l2,if_pos (by omega),e1,hw.r22at hx (by omega) (by omega) (by omega)]
   simp only [Option.bind_some]
   rw [if_pos c0,if_pos (show cellI T S H x 0<(base.length:Int) by omega),state_is hu.1 hu.2,ref_state hu.1]
   simp only [Option.bind_some]
   rw [if_pos q,if_pos q]
   exact h k (by omega)
  ·obtain ⟨r,hr,h⟩:=ih (x+1) hw hn (by omega) (by omega)
   refine ⟨r,hr,fun k hk=>?_⟩
   obtain ⟨k,rfl⟩:∃ z,k=z+1:=⟨k - 1,by omega⟩
   rw [pack_Cells.l2,if_pos (by rw [wi64 (n:=C+1) (by omega) (by omega)]; omega),sr22_Cells.l2,if_pos (by omega),e1,hw.r22at hx (by omega) (by omega) (by omega)]
   simp only [Option.bind_some]
   rw [if_pos c0,if_pos (show cellI T S H x 0<(base.length:Int) by omega),state_is hu.1 hu.2,ref_state hu.1,wi64 (n:=x+1) (by omega) (by omega)]
   simp only [Option.bind_some]
   rw [if_neg q,if_neg q]
   exact h k (by omega)
end
end Go.Eng
namespace Go.Eng
open Go.Proofs Go.RowKit Go.Proofs.YtgbcnokeaaabfaaGreatW.PrintWords
set_option linter.unusedVariables false
set_option linter.unusedSimpArgs false
section
variable {T S C H K V L:Int} {l:List Int}
theorem wrap_succ {i:Nat} (h:i<100000):IntKind.wrap .i64 ((i:Int)+1)=((i+1:Nat):Int):=by rw [wi64 (by omega) (by omega)]; rfl
theorem cells_l1 {nn:Nat} {base:List Int} (hbase:base.length=nn):∀ (m:Nat) (x:Int) {xs:List Int} {mv:List (Int × Int)},Wd T S C H K V L xs→xs.length=nn→1≤x→x+m=C+1→(∀ p∈mv,p.1 % 4294967296<x∧0≤p.2∧p.2<18446744073709551616)→mv.length+m≤70→∃ r,r.length=nn∧∀ k,m+1300≤k→pack_Cells.l1 k T S C H K V L base x mv xs=some (r,true)∧sr22_Cells.l1 k T S C H K V L x (mv.map s79) xs=some (r,true)
 | 0,x,xs,mv,hw,hn,hx,hm,hmv,hb=>by
  have hC:=hw.r.c
  obtain ⟨r,hr,h⟩:=cells_l23 (T:=T) (S:=S) (C:=C) (H:=H) (K:=K) (V:=V) (L:=L) (mv:=mv) (by omega) (fun p hp=>(hmv p hp).2) base hbase (C+1).toNat 0 hw hn (Int.le_refl 0) (by omega)
  refine ⟨r,hr,fun k hk=>?_⟩
  obtain ⟨k,rfl⟩:∃ z,k=z+1:=⟨k - 1,by omega⟩
  rw [pack_Cells.l1,if_neg (by rw [wi64 (n:=C+1) (by omega) (by omega)]; omega),sr22_Cells.l1,if_neg (by omega)]
  exact h k (by omega)
 | m+1,x,xs,mv,hw,hn,hx,hm,hmv,hb=>by
  have hC:=hw.r.c
  have hH:=hw.r.h
  obtain ⟨e1,_,c0,c1⟩:=hw.cell (i:=x) (f:=0) (by omega) (by omega) (by omega) (by omega)
  have hu:=hw.rdu (cellI T S H x 0)
  have hmv':∀ p∈mv,p.1 % 4294967296<x+1∧0≤p.2∧p.2<18446744073709551616:=fun p hp=>by
   have:=hmv p hp
   exact ⟨by omega,this.2⟩
  by_cases q:rd xs (cellI T S H x 0) % 4=1
  ·rcases lw_range T S H xs (x - 1).toNat 1 (Int.le_refl 1) with h0 | h0
   ·obtain ⟨r,hr,h⟩:=cells_l1 hbase m (x+1) (mv:=mv) hw hn (by omega) (by omega) hmv' (by omega)
    refine ⟨r,hr,fun k hk=>?_⟩
    obtain ⟨k,rfl⟩:∃ z,k=z+1:=⟨k - 1,by omega⟩
    rw [pack_Cells.l1,if_pos (by rw [wi64 (n:=C+1) (by omega) (by omega)]; omega),if_neg (show ¬ x=0 by omega),e1,sr22_Cells.l1,if_pos (by omega),hw.rlowest (b:=x) (by omega) (by omega),hw.r22at (by omega) (by omega) (by omega) (by omega),wi64 (n:=x+1) (by omega) (by omega)]
    simp only [Option.bind_some]
    rw [if_pos c0,if_pos (show cellI T S H x 0<(base.length:Int) by omega),state_is hu.1 hu.2,ref_state hu.1]
    simp only [Option.bind_some]
    rw [q,if_pos rfl]
    simp only [Option.bind_some]
    rw [show ((1:Int) != 1)=false from rfl,if_neg (by decide),hw.lowest hx (by omega) (show xs.length=base.length by omega) (by omega)]
    simp only [Option.bind_some]
    rw [h0,if_neg (by decide),if_neg (by decide)]
    exact h k (by omega)
   ·have hmo:=fun (k:Nat) (hk:100≤k)=>hw.moves (a:=x) (b:=lw T S H xs (x - 1).toNat 1) hx (by omega) h0.1 (by omega) (by omega) (show xs.length=base.length by omega) (k:=k) hk
    have h1:=(hmo 100 (Nat.le_refl _)).2.2
    have hg:=gn_range hu.1
    have hg2:=gn_range (hw.rdu (cellI T S H (lw T S H xs (x - 1).toNat 1) 0)).1
    have ho:oldF T S H x xs % 4294967296=x:=by unfold oldF hdl; omega
    obtain ⟨r,hr,h⟩:=cells_l1 hbase m (x+1) (mv:=mv ++ [(oldF T S H x xs,oldF T S H (lw T S H xs (x - 1).toNat 1) xs)]) h1.1 (by rw [h1.2]; exact hn) (by omega) (by omega) (fun p hp=>by
     rcases List.mem_append.1 hp with hp | hp
     ·exact hmv' p hp
     ·rw [List.mem_singleton.1 hp]
      refine ⟨?_,?_⟩
      ·show oldF T S H x xs % 4294967296<x+1
       omega
      ·show 0≤oldF T S H (lw T S H xs (x - 1).toNat 1) xs∧oldF T S H (lw T S H xs (x - 1).toNat 1) xs<18446744073709551616
       unfold oldF hdl
       omega) (by rw [List.length_append,List.length_singleton]; omega)
    refine ⟨r,hr,fun k hk=>?_⟩
    obtain ⟨k,rfl⟩:∃ z,k=z+1:=⟨k - 1,by omega⟩
    rw [pack_Cells.l1,if_pos (by rw [wi64 (n:=C+1) (by omega) (by omega)]; omega),if_neg (show ¬ x=0 by omega),e1,sr22_Cells.l1,if_pos (by omega),hw.rlowest (b:=x) (by omega) (by omega),hw.r22at (by omega) (by omega) (by omega) (by omega),wi64 (n:=x+1) (by omega) (by omega)]
    simp only [Option.bind_some]
    rw [if_pos c0,if_pos (show cellI T S H x 0<(base.length:Int) by omega),state_is hu.1 hu.2,ref_state hu.1]
    simp only [Option.bind_some]
    rw [q,if_pos rfl]
    simp only [Option.bind_some]
    rw [show ((1:Int) != 1)=false from rfl,if_neg (by decide),hw.lowest hx (by omega) (show xs.length=base.length by omega) (by omega)]
    simp only [Option.bind_some]
    rw [if_pos (show lw T S H xs (x - 1).toNat 1 > 0 by omega),if_pos (show decide (lw T S H xs (x - 1).toNat 1 > 0)=true from decide_eq_true (by omega)),(hmo k (by omega)).1,(hmo k (by omega)).2.1]
    simp only [Option.bind_some]
    rw [if_pos (by rw [List.length_map]; omega),mput_new mv _ _ (fun p hp e=>by have:=(hmv p hp).1; rw [e,ho] at this; omega)]
    have hh:=h k (by omega)
    rw [List.map_append] at hh
    exact hh
  ·obtain ⟨r,hr,h⟩:=cells_l1 hbase m (x+1) (mv:=mv) hw hn (by omega) (by omega) hmv' (by omega)
   refine ⟨r,hr,fun k hk=>?_⟩
   obtain ⟨k,rfl⟩:∃ z,k=z+1:=⟨k - 1,by omega⟩
   rw [pack_Cells.l1,if_pos (by rw [wi64 (n:=C+1) (by omega) (by omega)]; omega),if_neg (show ¬ x=0 by omega),e1,sr22_Cells.l1,if_pos (by omega),hw.rlowest (b:=x) (by omega) (by omega),hw.r22at (by omega) (by omega) (by omega) (by omega),wi64 (n:=x+1) (by omega) (by omega)]
   simp only [Option.bind_some]
   rw [if_pos c0,if_pos (show cellI T S H x 0<(base.length:Int) by omega),state_is hu.1 hu.2,ref_state hu.1]
   simp only [Option.bind_some]
   rw [if_neg q,show (rd xs (cellI T S H x 0) % 4 != 1)=true from bne_iff_ne.2 q]
   simp only [Option.bind_some]
   rw [if_pos trivial,if_neg (by decide)]
   exact h k (by omega)
theorem cells_l0 {nn:Nat} {base:List Int} (hbase:base.length=nn) {es:List S53} {e2:List S47} (h12:es.map (·.f0)=e2.map (·.f0)) (hb:es.length≤100) (hes:∀ e∈es,0≤e.f0∧1≤e.f0 % 4294967296∧e.f0 % 4294967296≤C):∀ (rest:List S53) (i:Nat) {xs:List Int},Wd T S C H K V L xs→xs.length=nn→es.drop i=rest→∃ r,r.length=nn∧∀ k,rest.length+1500≤k→pack_Cells.l0 k T S C H K V L base es (i:Int) xs=some (r,true)∧sr22_Cells.l0 k T S C H K V L e2 (i:Int) xs=some (r,true)
 | [],i,xs,hw,hn,hd=>by
  have h1:es.length≤i:=List.drop_eq_nil_iff.1 hd
  have hl:es.length=e2.length:=by have:=congrArg List.length h12; rwa [List.length_map,List.length_map] at this
  have hC:=hw.r.c
  obtain ⟨r,hr,h⟩:=cells_l1 (T:=T) (S:=S) (C:=C) (H:=H) (K:=K) (V:=V) (L:=L) hbase C.toNat 1 (mv:=[]) hw hn (Int.le_refl 1) (by omega) (fun p hp=>absurd hp List.not_mem_nil) (by rw [List.length_nil]; omega)
  refine ⟨r,hr,fun k hk=>?_⟩
  rw [List.length_nil] at hk
  obtain ⟨k,rfl⟩:∃ z,k=z+1+1:=⟨k - 2,by omega⟩
  rw [pack_Cells.l0,if_neg (by omega),sr22_Cells.l0,if_neg (by omega),pack_Cells.l1,if_pos (by rw [wi64 (n:=C+1) (by omega) (by omega)]; omega),if_pos rfl]
  simp only [Option.bind_some]
  rw [if_pos trivial,wi64 (n:=(0:Int)+1) (by decide) (by decide)]
  exact ⟨(h k (by omega)).1,(h (k+1) (by omega)).2⟩
 | e :: rest,i,xs,hw,hn,hd=>by
  obtain ⟨h1,h2,h3⟩:=drop_cons' hd
  have hl:es.length=e2.length:=by have:=congrArg List.length h12; rwa [List.length_map,List.length_map] at this
  have he:=hes e (List.mem_of_getElem? h2)
  have r1:rd_T53 es (i:Int)=e:=by unfold rd_T53; rw [Int.toNat_natCast,List.getD_eq_getElem?_getD,h2]; rfl
  have r2:(rd_T47 e2 (i:Int)).f0=e.f0:=by
   have h4:(e2.map (·.f0))[i]?=some e.f0:=by rw [← h12,List.getElem?_map,h2]; rfl
   rw [List.getElem?_map] at h4
   unfold rd_T47
   rw [Int.toNat_natCast,List.getD_eq_getElem?_getD]
   cases h5:e2[i]? with
   | none=>rw [h5] at h4; cases h4
   | some z=>rw [h5] at h4; injection h4
  have hf:=hw.frees (i:=e.f0 % 4294967296) (by omega) (by omega) (show xs.length=base.length by omega)
  obtain ⟨r,hr,h⟩:=cells_l0 hbase h12 hb hes rest (i+1) hf.2.2 (by unfold frF; rw [List.length_set]; exact hn) h3
  refine ⟨r,hr,fun k hk=>?_⟩
  rw [List.length_cons] at hk
  obtain ⟨k,rfl⟩:∃ z,k=z+1:=⟨k - 1,by omega⟩
  rw [pack_Cells.l0,if_pos (by omega),if_pos (by omega),r1,hf.1,sr22_Cells.l0,if_pos (by omega),if_pos (by omega),r2,ref_index (by omega),wrap_succ (by omega)]
  simp only [Option.bind_some]
  rw [hf.2.1]
  simp only [Option.bind_some]
  exact h k (by omega)
theorem Cells_is {k:Nat} (hk:2900≤k) (hu:∀ x∈l,0≤x∧x<18446744073709551616) (hl:l.length≤400) {ll:List (List S53)} {e2:List S47} (h1:ll.length≤100) (h2:ll.flatten.length≤100) (h12:ll.flatten.map (·.f0)=e2.map (·.f0)) (hue:∀ e∈e2,0≤e.f0∧e.f0<18446744073709551616):∃ r b,r.length≤400∧pack_Cells.f k T S C H K V L l ll=some (r,b)∧sr22_Cells.f k T S C H K V L l e2=some (r,b)∧(b=true→Wd T S C H K V L l∧RestB T S C H K V L l (e2.map (·.f0))=true):=by
 by_cases hW:R7 T S C H K V L∧(l.length:Int)=lenI T S C H
 ·have hw:Wd T S C H K V L l:=⟨hW.1,hW.2,hu⟩
  have hC:=hw.r.c
  have hle:ll.flatten.length=e2.length:=by have:=congrArg List.length h12; rwa [List.length_map,List.length_map] at this
  have hue2:∀ e∈ll.flatten,0≤e.f0∧e.f0<18446744073709551616:=fun e he=>by
   have hm:e.f0∈e2.map (·.f0):=by rw [← h12]; exact List.mem_map.2 ⟨e,he,rfl⟩
   obtain ⟨z,hz,ez⟩:=List.mem_map.1 hm
   have:=hue z hz
   rw [ez] at this
   exact this
  unfold pack_Cells.f sr22_Cells.f
  rw [hw.Rest hk hl h1 h2 hue2,hw.rRest hk (by omega) hue,h12]
  simp only [Option.bind_some]
  cases hR:RestB T S C H K V L l (e2.map (·.f0)) with
  | false=>exact ⟨[],false,by simp,rfl,rfl,fun h=>Bool.noConfusion h⟩
  | true =>
   have hes:∀ e∈ll.flatten,0≤e.f0∧1≤e.f0 % 4294967296∧e.f0 % 4294967296≤C:=fun e he=>by
    have hm:e.f0∈lvs T S C H K V L l 0 ++ e2.map (·.f0):=List.mem_append.2 (.inr (by rw [← h12]; exact List.mem_map.2 ⟨e,he,rfl⟩))
    have hb:=hue2 e he
    unfold RestB ownB at hR
    simp only [Bool.and_eq_true] at hR
    have hg:=List.all_eq_true.1 hR.2.2.2.1 _ hm
    unfold goodB at hg
    rw [Bool.and_eq_true,nm_is hb.1 hb.2] at hg
    have:=hg.1
    simp only [Bool.and_eq_true,decide_eq_true_eq] at this
    omega
   obtain ⟨r,hr,h⟩:=cells_l0 (T:=T) (S:=S) (C:=C) (H:=H) (K:=K) (V:=V) (L:=L) (base:=l) rfl h12 h2 hes ll.flatten 0 hw rfl rfl
   have hh:=h k (by omega)
   have hL:=lens hw.r
   have hN:lenI T S C H=1+T * S+(C+1) * (6+H):=rfl
   have hlen:=hw.len
   rw [if_pos rfl,if_pos rfl,if_pos (by omega),if_pos (by rw [List.length_nil]; omega),concat_is h1 (by omega) (by omega)]
   simp only [Option.bind_some,List.nil_append]
   rw [if_pos (by omega)]
   exact ⟨r,true,by omega,hh.1,hh.2,fun _=>⟨hw,trivial⟩⟩
 ·refine ⟨[],false,by simp,?_,?_,fun h=>Bool.noConfusion h⟩
  ·unfold pack_Cells.f
   rw [(noRest hW ll [] k).1]
   rfl
  ·unfold sr22_Cells.f
   rw [(noRest hW [] e2 k).2]
   rfl
def nw (e:S47):S53:=⟨e.f0,e.f1,e.f2⟩
theorem news_l0 {l2:List S47} (hb:l2.length≤1000):∀ (rest:List S47) (k i:Nat) (xs:List S53),l2.drop i=rest→xs.length+rest.length≤1000→rest.length<k→stepstonelaw06_News.l0 k l2 (i:Int) xs=some (xs ++ rest.map nw)
 | rest,0,i,xs,_,_,h=>absurd h (by omega)
 | [],k+1,i,xs,hd,_,_=>by
  have h1:l2.length≤i:=List.drop_eq_nil_iff.1 hd
  rw [stepstonelaw06_News.l0,if_neg (by omega),List.map_nil,List.append_nil]
 | e :: rest,k+1,i,xs,hd,hx,hk=>by
  obtain ⟨h1,h2,h3⟩:=drop_cons' hd
  have r2:rd_T47 l2 (i:Int)=e:=by unfold rd_T47; rw [Int.toNat_natCast,List.getD_eq_getElem?_getD,h2]; rfl
  rw [List.length_cons] at hx hk
  rw [stepstonelaw06_News.l0,if_pos (by omega),if_pos (by omega),if_pos (by omega),r2,wrap_succ (by omega),news_l0 hb rest k (i+1) _ h3 (by rw [List.length_append,List.length_singleton]; omega) (by omega),List.append_assoc]
  rfl
theorem nw_f0 (l2:List S47):(l2.map nw).map (·.f0)=l2.map (·.f0):=by rw [List.map_map]; rfl
end
theorem u64w {x:Int} (h:(Lit.int .u64 x).wf=true):0≤x∧x<18446744073709551616:=by
 have h1:IntKind.u64.min≤x∧x≤IntKind.u64.max:=by simpa [Lit.wf] using h
 have e:IntKind.u64.min=0:=by decide
 have e2:IntKind.u64.max=18446744073709551615:=by decide
 omega
end Go.Eng
namespace Go.Eng
open Go.Proofs Go.RowKit Go.Proofs.YtgbcnokeaaabfaaGreatW.PrintWords
set_option linter.unusedVariables false
set_option linter.unusedSimpArgs false
def ce (T S H:Int) (l:List Int) (i f:Int):Int:=rd l (cellI T S H i f)
def ix (h:Int):Int:=h % 4294967296
def ge (h:Int):Int:=h / 4294967296 % 1073741824
def ren (mv:List (Int × Int)) (h:Int):Int:=(mget mv h).getD h
def hO (C h:Int):Prop:=9223372036854775808≤h∧h<18446744073709551616∧h / 4611686018427387904 % 2=0∧1≤ix h∧ix h≤C
theorem hdl_of {C h:Int} (h1:hO C h):hdl (ix h) (ge h)=h:=by
 unfold hO ix at h1
 unfold hdl ix ge
 omega
theorem hO_hdl {C b g:Int} (b0:1≤b) (b1:b≤C) (bC:C<4294967296) (g0:0≤g) (g1:g<1073741824):hO C (hdl b g)∧ix (hdl b g)=b∧ge (hdl b g)=g:=by
 unfold hO ix ge hdl
 omega
theorem cnt_zero {i:Int}:∀ {own:List Int},cntI own i=0↔∀ h∈own,ix h≠i
 | []=>⟨fun _ _ h=>absurd h List.not_mem_nil,fun _=>rfl⟩
 | h :: t=>by
  have:=cnt_le t i
  rw [cnt_cons,List.forall_mem_cons,← cnt_zero (own:=t)]
  unfold ix
  by_cases e:h % 4294967296=i
  ·rw [if_pos e]; exact ⟨fun h=>by omega,fun h=>absurd e h.1⟩
  ·rw [if_neg e]; exact ⟨fun h=>⟨e,by omega⟩,fun h=>by omega⟩
theorem nd_of_cnt:∀ {own:List Int},(∀ h∈own,cntI own (ix h)≤1)→(own.map ix).Nodup
 | [],_=>List.nodup_nil
 | h :: t,hc=>by
  rw [List.map_cons,List.nodup_cons]
  refine ⟨fun hm=>?_,nd_of_cnt fun a ha=>?_⟩
  ·have h1:=hc h List.mem_cons_self
   rw [cnt_cons,if_pos (show h % 4294967296=ix h from rfl)] at h1
   have h2:=cnt_le t (ix h)
   obtain ⟨a,ha,e⟩:=List.mem_map.1 hm
   exact cnt_zero.1 (show cntI t (ix h)=0 by omega) a ha e
  ·have h1:=hc a (List.mem_cons_of_mem _ ha)
   rw [cnt_cons] at h1
   split at h1 <;> omega
theorem nd_inj:∀ {own:List Int},(own.map ix).Nodup→∀ a∈own,∀ b∈own,ix a=ix b→a=b
 | [],_,a,ha,_,_,_=>absurd ha List.not_mem_nil
 | h :: t,hn,a,ha,b,hb,e=>by
  rw [List.map_cons,List.nodup_cons] at hn
  rcases List.mem_cons.1 ha with e1 | ha <;> rcases List.mem_cons.1 hb with e2 | hb
  ·rw [e1,e2]
  ·exact absurd (List.mem_map.2 ⟨b,hb,by rw [← e,e1]⟩) hn.1
  ·exact absurd (List.mem_map.2 ⟨a,ha,by rw [e,e2]⟩) hn.1
  ·exact nd_inj hn.2 a ha b hb e
theorem mget_app (k v h:Int):∀ m:List (Int × Int),mget (m ++ [(k,v)]) h=if (mget m h).isSome then mget m h else if h=k then some v else none
 | []=>rfl
 | p :: r=>by
  rw [List.cons_append,mget_cons,mget_cons]
  by_cases e:h=p.1
  ·rw [if_pos e,if_pos e]; rfl
  ·rw [if_neg e,if_neg e]; exact mget_app k v h r
section
variable {T S C H K V L:Int} {l:List Int}
theorem Wd.atc (hw:Wd T S C H K V L l) {i f:Int} (h0:0≤i) (h1:i≤C) (h2:0≤f) (h3:f<6+H):atF T S C H K V L l i f=ce T S H l i f:=by
 have:=hw.at_ h0 h1 h2 h3
 rw [at_some hw.r hw.len (isF_iff.2 ⟨h0,h1,h2,h3⟩)] at this
 exact (Option.some.inj this).symm
theorem Wd.ceu (hw:Wd T S C H K V L l) (i f:Int):0≤ce T S H l i f∧ce T S H l i f<18446744073709551616:=hw.rdu _
theorem ce_set (hw:Wd T S C H K V L l) {i f a b v:Int} (h0:0≤i) (h1:i≤C) (h2:0≤f) (h3:f<6+H) (g0:0≤a) (g1:a≤C) (g2:0≤b) (g3:b<6+H):ce T S H (l.set (Int.toNat (cellI T S H i f)) v) a b=if i=a∧f=b then v else ce T S H l a b:=rd_set2 hw h0 h1 h2 h3 g0 g1 g2 g3
theorem rd_out (hw:Wd T S C H K V L l) {i f v j:Int} (h0:1≤i) (h1:i≤C) (h2:0≤f) (h3:f<6+H) (hj:j<cellI T S H 1 0):rd (l.set (Int.toNat (cellI T S H i f)) v) j=rd l j:=by
 have hH:=hw.r.h
 obtain ⟨_,_,c0,c1⟩:=hw.cell (i:=i) (by omega) h1 h2 h3
 obtain ⟨_,_,d0,d1⟩:=hw.cell (i:=1) (f:=0) (by omega) (by omega) (by omega) (by omega)
 have:cellI T S H 1 0≤cellI T S H i f:=by
  unfold cellI
  have:1 * (6+H)≤i * (6+H):=Int.mul_le_mul_of_nonneg_right h0 (by omega)
  omega
 have hpos:0<cellI T S H 1 0:=by
  have:=(lens hw.r).1
  unfold cellI
  omega
 rw [rd_set (by omega),if_neg (by omega)]
theorem cpy_ce {a b:Int} (ha0:0≤a) (ha:a≤C) (hb0:1≤b) (hb:b≤C) (hab:b≠a):∀ (m:Nat) (x:Int) {xs:List Int},Wd T S C H K V L xs→1≤x→x+m≤6+H→(∀ i f,0≤i→i≤C→0≤f→f<6+H→ce T S H (cpy T S H a b m x xs) i f=if i=b∧x≤f∧f<x+m then ce T S H xs a f else ce T S H xs i f)∧∀ j,j<cellI T S H 1 0→rd (cpy T S H a b m x xs) j=rd xs j
 | 0,x,xs,hw,_,_=>⟨fun i f _ _ _ _=>by rw [if_neg (by omega)]; rfl,fun _ _=>rfl⟩
 | m+1,x,xs,hw,hx,hm=>by
  have h1:=hw.set (i:=b) (f:=x) (hw.rdu (cellI T S H a x))
  obtain ⟨q1,q2⟩:=cpy_ce ha0 ha hb0 hb hab m (x+1) h1 (by omega) (by omega)
  refine ⟨fun i f i0 i1 f0 f1=>?_,fun j hj=>?_⟩
  ·have:=q1 i f i0 i1 f0 f1
   rw [ce_set hw (by omega) hb (by omega) (by omega) ha0 ha f0 f1,if_neg (show ¬ (b=a∧x=f) by omega),ce_set hw (by omega) hb (by omega) (by omega) i0 i1 f0 f1] at this
   rw [cpy,this]
   by_cases e:i=b
   ·by_cases e2:f=x
    ·rw [if_neg (show ¬ (i=b∧x+1≤f∧f<x+1+(m:Int)) by omega),if_pos ⟨e.symm,e2.symm⟩,if_pos (show i=b∧x≤f∧f<x+((m+1:Nat):Int) by omega),e2]; rfl
    ·by_cases e3:x+1≤f∧f<x+1+m
     ·rw [if_pos (show i=b∧x+1≤f∧f<x+1+(m:Int) by omega),if_pos (show i=b∧x≤f∧f<x+((m+1:Nat):Int) by omega)]
     ·rw [if_neg (show ¬ (i=b∧x+1≤f∧f<x+1+(m:Int)) by omega),if_neg (show ¬ (b=i∧x=f) by omega),if_neg (show ¬ (i=b∧x≤f∧f<x+((m+1:Nat):Int)) by omega)]
   ·rw [if_neg (show ¬ (i=b∧x+1≤f∧f<x+1+(m:Int)) by omega),if_neg (show ¬ (b=i∧x=f) by omega),if_neg (show ¬ (i=b∧x≤f∧f<x+((m+1:Nat):Int)) by omega)]
  ·rw [cpy,q2 j hj,rd_out hw hb0 hb (by omega) (by omega) hj]
theorem mv_ce (hw:Wd T S C H K V L l) {a b:Int} (ha0:1≤a) (ha:a≤C) (hb0:1≤b) (hb:b≤C) (hab:b≠a):(∀ i f,0≤i→i≤C→0≤f→f<6+H→ce T S H (mvF T S H L a b l) i f=if i=b then (if f=0 then 4 * gn (ce T S H l b 0)+1 else ce T S H l a f) else if i=a∧f=0 then af (gn (ce T S H l a 0)) L else ce T S H l i f)∧∀ j,j<cellI T S H 1 0→rd (mvF T S H L a b l) j=rd l j:=by
 have hH:=hw.r.h
 have hc:=cpy_ce (by omega) ha hb0 hb hab (5+H).toNat 1 hw (Int.le_refl 1) (by omega)
 have hv:=hw.rdu (cellI T S H b 0)
 have gb:=gn_range hv.1
 have hw1:=(cpy_ok (xs:=l) (by omega) ha (by omega) hb hab (5+H).toNat 1 hw (Int.le_refl 1) (by omega)).1
 have hw2:=hw1.set (i:=b) (f:=0) (v:=4 * gn (rd l (cellI T S H b 0))+1) (by omega)
 have ea:rd ((cpy T S H a b (5+H).toNat 1 l).set (Int.toNat (cellI T S H b 0)) (4 * gn (rd l (cellI T S H b 0))+1)) (cellI T S H a 0)=ce T S H l a 0:=by
  have h1:=ce_set hw1 (v:=4 * gn (rd l (cellI T S H b 0))+1) (i:=b) (f:=0) (a:=a) (b:=0) (by omega) hb (by omega) (by omega) (by omega) ha (by omega) (by omega)
  rw [if_neg (by omega),hc.1 a 0 (by omega) ha (by omega) (by omega),if_neg (by omega)] at h1
  exact h1
 refine ⟨fun i f i0 i1 f0 f1=>?_,fun j hj=>?_⟩
 ·unfold mvF frF
  rw [ea,ce_set hw2 (by omega) ha (by omega) (by omega) i0 i1 f0 f1,ce_set hw1 (by omega) hb (by omega) (by omega) i0 i1 f0 f1,hc.1 i f i0 i1 f0 f1]
  by_cases e:i=b
  ·rw [if_neg (by omega),if_pos e]
   by_cases e2:f=0
   ·rw [if_pos ⟨e.symm,e2.symm⟩,if_pos e2]; rfl
   ·rw [if_neg (by omega),if_pos ⟨e,by omega,by omega⟩,if_neg e2]
  ·rw [if_neg e]
   by_cases e2:i=a∧f=0
   ·rw [if_pos ⟨e2.1.symm,e2.2.symm⟩,if_pos e2]
   ·rw [if_neg (by omega),if_neg e2,if_neg (by omega),if_neg (by omega)]
 ·unfold mvF frF
  rw [rd_out hw2 ha0 ha (by omega) (by omega) hj,rd_out hw1 hb0 hb (by omega) (by omega) hj,hc.2 j hj]
end
end Go.Eng
namespace Go.Eng
open Go.Proofs Go.RowKit Go.Proofs.YtgbcnokeaaabfaaGreatW.PrintWords
set_option linter.unusedVariables false
set_option linter.unusedSimpArgs false
def gone (T S H:Int) (xs:List Int) (h:Int):Prop:=ce T S H xs (ix h) 0 % 4=2∨(ge h<ce T S H xs (ix h) 0 / 4∧ce T S H xs (ix h) 0 / 4≤1073741823)
structure St (T S C H K V L:Int) (l lv es:List Int) (x:Int) (xs:List Int) (mv:List (Int × Int)):Prop where
 wd:Wd T S C H K V L xs
 live:∀ h∈lv,hO C (ren mv h)∧ce T S H xs (ix (ren mv h)) 0=4 * ge (ren mv h)+1∧∀ f,1≤f→f<6+H→ce T S H xs (ix (ren mv h)) f=ce T S H l (ix h) f
 inj:∀ a∈lv,∀ b∈lv,ix (ren mv a)=ix (ren mv b)→a=b
 tak:∀ i,1≤i→i≤C→ce T S H xs i 0 % 4=1→∃ h∈lv,ix (ren mv h)=i
 key:∀ p∈mv,p.1∈lv
 mvd:∀ h∈lv,mget mv h=none∨ix h<x∧ix (ren mv h)<x∧gone T S H xs h
 esg:∀ e∈es,1≤ix e∧ix e≤C∧gone T S H xs e
 low:∀ i j,1≤j→j<i→i<x→ce T S H xs i 0 % 4=1→ce T S H xs j 0 % 4≠0
 out:∀ j,j<cellI T S H 1 0→rd xs j=rd l j
section
variable {T S C H K V L:Int} {l lv es:List Int} {x:Int} {xs:List Int} {mv:List (Int × Int)}
theorem St.stay (s:St T S C H K V L l lv es x xs mv) (h:ce T S H xs x 0 % 4=1→∀ j,1≤j→j<x→ce T S H xs j 0 % 4≠0):St T S C H K V L l lv es (x+1) xs mv :=
 ⟨s.wd,s.live,s.inj,s.tak,s.key,fun a ha=>(s.mvd a ha).imp id (fun q=>⟨by omega,by omega,q.2.2⟩),s.esg,fun i j h1 h2 h3 h4=>by
  by_cases e:i=x
  ·subst e; exact h h4 j h1 h2
  ·exact s.low i j h1 h2 (by omega) h4,s.out⟩
theorem mget_none {m:List (Int × Int)} {h:Int} (hk:∀ p∈m,p.1≠h):mget m h=none:=by
 cases e:mget m h with
 | none=>rfl
 | some v=>exact absurd rfl (hk _ (mget_mem e))
theorem ren_none {m:List (Int × Int)} {h:Int} (e:mget m h=none):ren m h=h:=by unfold ren; rw [e]; rfl
theorem ren_app {m:List (Int × Int)} {k v h:Int} (hk:mget m k=none):ren (m ++ [(k,v)]) h=if h=k then v else ren m h:=by
 unfold ren
 rw [mget_app]
 by_cases e:h=k
 ·subst e
  rw [hk,if_pos rfl]
  simp
 ·rw [if_neg e]
  cases mget m h <;> simp [e]
theorem gn_gen {g:Int} (h0:0≤g) (h1:g<1073741824) {s:Int} (s0:0≤s) (s1:s<4):gn (4 * g+s)=g:=by
 unfold gn
 split <;> omega
theorem ge_range (h:Int):0≤ge h∧ge h<1073741824:=by unfold ge; omega
theorem gone_mv (hw:Wd T S C H K V L xs) {a b:Int} (ha0:1≤a) (ha:a≤C) (hb0:1≤b) (hb:b≤C) (hab:b≠a) (qa:ce T S H xs a 0 % 4=1) (qb:ce T S H xs b 0 % 4=0) (hl0:0≤L) (hl1:L≤1073741823) {h:Int} (i0:1≤ix h) (i1:ix h≤C) (hg:gone T S H xs h):gone T S H (mvF T S H L a b xs) h:=by
 have hH:=hw.r.h
 have hm:=(mv_ce hw ha0 ha hb0 hb hab).1 (ix h) 0 (by omega) i1 (by omega) (by omega)
 have hr:=ge_range h
 unfold gone at hg ⊢
 rw [hm]
 by_cases e:ix h=b
 ·rw [if_pos e,if_pos rfl]
  rw [e] at hg
  right
  rcases hg with hg | hg
  ·omega
  ·have:gn (ce T S H xs b 0)=ce T S H xs b 0 / 4:=by unfold gn; rw [if_neg (by omega)]
   omega
 ·rw [if_neg e]
  by_cases e2:ix h=a
  ·rw [if_pos ⟨e2,rfl⟩]
   rw [e2] at hg
   rcases hg with hg | hg
   ·omega
   ·have:gn (ce T S H xs a 0)=ce T S H xs a 0 / 4:=by unfold gn; rw [if_neg (by omega)]
    rw [this]
    unfold af
    split
    ·left; omega
    ·right; omega
  ·rw [if_neg (fun q=>e2 q.1)]
   exact hg
theorem St.move (s:St T S C H K V L l lv es x xs mv) (hlv:∀ h∈lv,hO C h) {b:Int} (hx0:1≤x) (hx:x≤C) (hb0:1≤b) (hb:b<x) (qx:ce T S H xs x 0 % 4=1) (qb:ce T S H xs b 0 % 4=0) (hlow:∀ j,1≤j→j<b→ce T S H xs j 0 % 4≠0):oldF T S H x xs∈lv∧St T S C H K V L l lv es (x+1) (mvF T S H L x b xs) (mv ++ [(oldF T S H x xs,oldF T S H b xs)]):=by
 have hH:=s.wd.r.h
 have hC:=s.wd.r.c
 have hLL:=s.wd.r.l
 obtain ⟨h0,hm0,e0⟩:=s.tak x hx0 hx qx
 have hn0:mget mv h0=none:=(s.mvd h0 hm0).resolve_right (fun q=>by omega)
 rw [ren_none hn0] at e0
 have hO0:=hlv h0 hm0
 have hr0:=ge_range h0
 obtain ⟨_,hme,hfl⟩:=s.live h0 hm0
 rw [ren_none hn0,e0] at hme hfl
 have hold:oldF T S H x xs=h0:=by
  show hdl x (gn (ce T S H xs x 0))=h0
  rw [hme,gn_gen hr0.1 hr0.2 (by decide) (by decide),← e0]
  exact hdl_of hO0
 have hub:=s.wd.ceu b 0
 have hgb:=gn_range hub.1
 have hnew:oldF T S H b xs=hdl b (gn (ce T S H xs b 0)):=rfl
 obtain ⟨n1,n2,n3⟩:=hO_hdl (C:=C) (b:=b) (g:=gn (ce T S H xs b 0)) hb0 (by omega) (by omega) hgb.1 hgb.2
 rw [hold,hnew]
 have hw':=(s.wd.moves hx0 hx hb0 (by omega) (by omega) rfl (k:=100) (Nat.le_refl _)).2.2.1
 obtain ⟨mc,mo⟩:=mv_ce s.wd hx0 hx hb0 (show b≤C by omega) (show b≠x by omega)
 have hra:∀ h,ren (mv ++ [(h0,hdl b (gn (ce T S H xs b 0)))]) h=if h=h0 then hdl b (gn (ce T S H xs b 0)) else ren mv h:=fun h=>ren_app hn0
 -- the slots of the others
 have oth:∀ h∈lv,h≠h0→ix (ren mv h)≠x∧ix (ren mv h)≠b:=fun h hm hne=>by
  refine ⟨fun q=>hne (s.inj h hm h0 hm0 (by rw [q,ren_none hn0,e0])),fun q=>?_⟩
  have:=(s.live h hm).2.1
  rw [q] at this
  omega
 have gon:∀ h,1≤ix h→ix h≤C→gone T S H xs h→gone T S H (mvF T S H L x b xs) h:=fun h i0 i1 hg=>gone_mv s.wd hx0 hx hb0 (by omega) (by omega) qx qb hLL.1 hLL.2 i0 i1 hg
 refine ⟨hm0,⟨hw',fun h hm=>?_,fun a ha c hc e=>?_,fun i i0 i1 q=>?_,fun p hp=>?_,fun h hm=>?_,fun e he=>?_,fun i j h1 h2 h3 h4=>?_,fun j hj=>(mo j hj).trans (s.out j hj)⟩⟩
 ·rw [hra h]
  by_cases e:h=h0
  ·subst e
   rw [if_pos rfl]
   refine ⟨n1,?_,fun f f0 f1=>?_⟩
   ·rw [n2,n3,mc b 0 (by omega) (by omega) (by omega) (by omega),if_pos rfl,if_pos rfl]
   ·rw [n2,mc b f (by omega) (by omega) (by omega) f1,if_pos rfl,if_neg (by omega),hfl f f0 f1,e0]
  ·rw [if_neg e]
   obtain ⟨l1,l2,l3⟩:=s.live h hm
   obtain ⟨o1,o2⟩:=oth h hm e
   have hi:=l1.2.2.2
   refine ⟨l1,?_,fun f f0 f1=>?_⟩
   ·rw [mc _ 0 (by omega) hi.2 (by omega) (by omega),if_neg o2,if_neg (fun q=>o1 q.1)]; exact l2
   ·rw [mc _ f (by omega) hi.2 (by omega) f1,if_neg o2,if_neg (fun q=>o1 q.1)]; exact l3 f f0 f1
 ·rw [hra a,hra c] at e
  by_cases ea:a=h0 <;> by_cases ec:c=h0
  ·rw [ea,ec]
  ·rw [if_pos ea,if_neg ec,n2] at e
   exact absurd e.symm (oth c hc ec).2
  ·rw [if_neg ea,if_pos ec,n2] at e
   exact absurd e (oth a ha ea).2
  ·rw [if_neg ea,if_neg ec] at e
   exact s.inj a ha c hc e
 ·rw [mc i 0 (by omega) i1 (by omega) (by omega)] at q
  by_cases e:i=b
  ·exact ⟨h0,hm0,by rw [hra,if_pos rfl,n2,e]⟩
  ·rw [if_neg e] at q
   by_cases e2:i=x
   ·rw [if_pos ⟨e2,rfl⟩] at q
    unfold af at q
    split at q <;> omega
   ·rw [if_neg (fun q=>e2 q.1)] at q
    obtain ⟨h,hm,eh⟩:=s.tak i i0 i1 q
    refine ⟨h,hm,?_⟩
    rw [hra,if_neg (fun q=>e2 (by rw [← eh,q,ren_none hn0,e0]))]
    exact eh
 ·rcases List.mem_append.1 hp with hp | hp
  ·exact s.key p hp
  ·rw [List.mem_singleton.1 hp]; exact hm0
 ·by_cases e:h=h0
  ·right
   subst e
   refine ⟨by omega,by rw [hra,if_pos rfl,n2]; omega,?_⟩
   unfold gone
   rw [e0,mc x 0 (by omega) hx (by omega) (by omega),if_neg (by omega),if_pos ⟨rfl,rfl⟩,hme,gn_gen hr0.1 hr0.2 (by decide) (by decide)]
   unfold af
   split
   ·left; omega
   ·right; omega
  ·rcases s.mvd h hm with q | q
   ·left
    rw [mget_app,q]
    simp [e]
   ·right
    rw [hra,if_neg e]
    exact ⟨by omega,by omega,gon h (hlv h hm).2.2.2.1 (hlv h hm).2.2.2.2 q.2.2⟩
 ·obtain ⟨a1,a2,a3⟩:=s.esg e he
  exact ⟨a1,a2,gon e a1 a2 a3⟩
 ·rw [mc i 0 (by omega) (by omega) (by omega) (by omega)] at h4
  rw [mc j 0 (by omega) (by omega) (by omega) (by omega)]
  have jx:¬ (j=x∧(0:Int)=0):=by omega
  by_cases ej:j=b
  ·rw [if_pos ej,if_pos rfl]; omega
  ·rw [if_neg ej,if_neg jx]
   by_cases ei:i=b
   ·exact hlow j h1 (by omega)
   ·rw [if_neg ei] at h4
    by_cases ex:i=x
    ·rw [if_pos ⟨ex,rfl⟩] at h4
     unfold af at h4
     split at h4 <;> omega
    ·rw [if_neg (fun q=>ex q.1)] at h4
     exact s.low i j h1 h2 (by omega) h4
end
end Go.Eng
namespace Go.Eng
open Go.Proofs Go.RowKit Go.Proofs.YtgbcnokeaaabfaaGreatW.PrintWords
set_option linter.unusedVariables false
set_option linter.unusedSimpArgs false
section
variable {T S C H K V L:Int} {l lv es:List Int}
theorem rd_out0 (hw:Wd T S C H K V L l) {i f v j:Int} (h0:0≤i) (h1:i≤C) (h2:0≤f) (h3:f<6+H) (hj:j<cellI T S H 0 0):rd (l.set (Int.toNat (cellI T S H i f)) v) j=rd l j:=by
 have hH:=hw.r.h
 obtain ⟨_,_,c0,c1⟩:=hw.cell h0 h1 h2 h3
 have:0≤i * (6+H):=Int.mul_nonneg h0 (by omega)
 have hT:=(lens hw.r).1
 unfold cellI at c0 c1 hj ⊢
 rw [rd_set (by omega),if_neg (by omega)]
theorem rcells_l23 {mv:List (Int × Int)} (hmb:mv.length≤100) (hmu:∀ p∈mv,0≤p.2∧p.2<18446744073709551616):∀ (n:Nat) (x:Int) {xs:List Int},Wd T S C H K V L xs→0≤x→(C+1 - x).toNat=n→∃ r,Wd T S C H K V L r∧(∀ i f,0≤i→i≤C→0≤f→f<6+H→ce T S H r i f=if x≤i∧ce T S H xs i 0 % 4=1∧6≤f then ren mv (ce T S H xs i f) else ce T S H xs i f)∧(∀ j,j<cellI T S H 0 0→rd r j=rd xs j)∧∀ k,n * 10+300≤k→sr22_Cells.l2 k T S C H K V L (mv.map s79) x xs=some (r,true):=by
 intro n
 induction n with
 | zero =>
  intro x xs hw hx hm
  have hC:=hw.r.c
  refine ⟨xs,hw,fun i f i0 i1 f0 f1=>by rw [if_neg (by omega)],fun _ _=>rfl,fun k hk=>?_⟩
  obtain ⟨k,rfl⟩:∃ z,k=z+1:=⟨k - 1,by omega⟩
  rw [sr22_Cells.l2,if_neg (by omega)]
 | succ n ih =>
  intro x xs hw hx hm
  have hC:=hw.r.c
  have hH:=hw.r.h
  have hu:=hw.rdu (cellI T S H x 0)
  have inner:∀ (m:Nat) (y:Int) {xs:List Int},Wd T S C H K V L xs→ce T S H xs x 0 % 4=1→0≤y→(H - y).toNat=m→∃ r,Wd T S C H K V L r∧(∀ i f,0≤i→i≤C→0≤f→f<6+H→ce T S H r i f=if (x<i∨i=x∧6+y≤f)∧ce T S H xs i 0 % 4=1∧6≤f then ren mv (ce T S H xs i f) else ce T S H xs i f)∧(∀ j,j<cellI T S H 0 0→rd r j=rd xs j)∧∀ k,m+n * 10+301≤k→sr22_Cells.l3 k T S C H K V L (mv.map s79) x y xs=some (r,true):=by
   intro m
   induction m with
   | zero =>
    intro y xs hw hq hy hm'
    obtain ⟨r,hr,h1,h2,h⟩:=ih (x+1) hw (by omega) (by omega)
    refine ⟨r,hr,fun i f i0 i1 f0 f1=>?_,h2,fun k hk=>?_⟩
    ·rw [h1 i f i0 i1 f0 f1]
     by_cases q:x+1≤i∧ce T S H xs i 0 % 4=1∧6≤f
     ·rw [if_pos q,if_pos ⟨by omega,q.2⟩]
     ·rw [if_neg q,if_neg (fun z=>q ⟨by omega,z.2⟩)]
    ·obtain ⟨k,rfl⟩:∃ z,k=z+1:=⟨k - 1,by omega⟩
     rw [sr22_Cells.l3,if_neg (by omega),wi64 (n:=x+1) (by omega) (by omega)]
     exact h k (by omega)
   | succ m ihm =>
    intro y xs hw hq hy hm'
    have hu:=hw.rdu (cellI T S H x (6+y))
    have hv:0≤ren mv (ce T S H xs x (6+y))∧ren mv (ce T S H xs x (6+y))<18446744073709551616:=by
     unfold ren
     cases e:mget mv (ce T S H xs x (6+y)) with
     | none=>exact hu
     | some v=>exact hmu _ (mget_mem e)
    have hcs:=fun a b (a0:0≤a) (a1:a≤C) (b0:0≤b) (b1:b<6+H)=>ce_set hw (v:=ren mv (ce T S H xs x (6+y))) (i:=x) (f:=6+y) hx (by omega) (by omega) (by omega) a0 a1 b0 b1
    obtain ⟨r,hr,h1,h2,h⟩:=ihm (y+1) (hw.set (i:=x) (f:=6+y) hv) (by rw [hcs x 0 hx (by omega) (by omega) (by omega),if_neg (by omega)]; exact hq) (by omega) (by omega)
    refine ⟨r,hr,fun i f i0 i1 f0 f1=>?_,fun j hj=>?_,fun k hk=>?_⟩
    ·rw [h1 i f i0 i1 f0 f1,hcs i f i0 i1 f0 f1,hcs i 0 i0 i1 (by omega) (by omega),if_neg (show ¬ (x=i∧6+y=0) by omega)]
     by_cases e:x=i∧6+y=f
     ·rw [if_pos e,if_neg (by omega),if_pos ⟨.inr ⟨e.1.symm,by omega⟩,by rw [← e.1]; exact hq,by omega⟩,← e.1,← e.2]
     ·rw [if_neg e]
      by_cases q:(x<i∨i=x∧6+(y+1)≤f)∧ce T S H xs i 0 % 4=1∧6≤f
      ·rw [if_pos q,if_pos ⟨by omega,q.2⟩]
      ·rw [if_neg q,if_neg (fun z=>q ⟨by omega,z.2⟩)]
    ·rw [h2 j hj,rd_out0 hw hx (by omega) (by omega) (by omega) hj]
    ·obtain ⟨k,rfl⟩:∃ z,k=z+1:=⟨k - 1,by omega⟩
     rw [sr22_Cells.l3,if_pos (by omega),wi64 (n:=6+y) (by omega) (by omega),wi64 (n:=y+1) (by omega) (by omega),hw.r22at hx (by omega) (by omega) (by omega)]
     simp only [Option.bind_some]
     rw [becomes_is hmb _ (by omega)]
     simp only [Option.bind_some]
     rw [hw.r22with hx (by omega) (by omega) (by omega)]
     exact h k (by omega)
  by_cases q:rd xs (cellI T S H x 0) % 4=1
  ·obtain ⟨r,hr,h1,h2,h⟩:=inner H.toNat 0 hw q (Int.le_refl 0) (by omega)
   refine ⟨r,hr,fun i f i0 i1 f0 f1=>?_,h2,fun k hk=>?_⟩
   ·rw [h1 i f i0 i1 f0 f1]
    by_cases q2:x≤i∧ce T S H xs i 0 % 4=1∧6≤f
    ·rw [if_pos q2,if_pos ⟨by omega,q2.2⟩]
    ·rw [if_neg q2,if_neg (fun z=>q2 ⟨by omega,z.2⟩)]
   ·obtain ⟨k,rfl⟩:∃ z,k=z+1:=⟨k - 1,by omega⟩
    rw [sr22_Cells.l2,if_pos (by omega),hw.r22at hx (by omega) (by omega) (by omega)]
    simp only [Option.bind_some]
    rw [ref_state hu.1]
    simp only [Option.bind_some]
    rw [if_pos q]
    exact h k (by omega)
  ·obtain ⟨r,hr,h1,h2,h⟩:=ih (x+1) hw (by omega) (by omega)
   refine ⟨r,hr,fun i f i0 i1 f0 f1=>?_,h2,fun k hk=>?_⟩
   ·rw [h1 i f i0 i1 f0 f1]
    by_cases q2:x≤i∧ce T S H xs i 0 % 4=1∧6≤f
    ·have:i≠x:=fun e=>q (by rw [e] at q2; exact q2.2.1)
     rw [if_pos q2,if_pos ⟨by omega,q2.2⟩]
    ·rw [if_neg q2,if_neg (fun z=>q2 ⟨by omega,z.2⟩)]
   ·obtain ⟨k,rfl⟩:∃ z,k=z+1:=⟨k - 1,by omega⟩
    rw [sr22_Cells.l2,if_pos (by omega),hw.r22at hx (by omega) (by omega) (by omega)]
    simp only [Option.bind_some]
    rw [ref_state hu.1,wi64 (n:=x+1) (by omega) (by omega)]
    simp only [Option.bind_some]
    rw [if_neg q]
    exact h k (by omega)
theorem lw_spec {xs:List Int}:∀ (n:Nat) (x:Int),1≤x→(lw T S H xs n x=0∧∀ j,x≤j→j<x+n→ce T S H xs j 0 % 4≠0)∨(x≤lw T S H xs n x∧lw T S H xs n x<x+n∧ce T S H xs (lw T S H xs n x) 0 % 4=0∧∀ j,x≤j→j<lw T S H xs n x→ce T S H xs j 0 % 4≠0)
 | 0,x,_ => .inl ⟨rfl,fun j h1 h2=>absurd h1 (by omega)⟩
 | n+1,x,hx=>by
  rw [lw_succ]
  by_cases q:rd xs (cellI T S H x 0) % 4=0
  ·rw [if_pos q]
   exact .inr ⟨Int.le_refl x,by omega,q,fun j h1 h2=>absurd h1 (by omega)⟩
  ·rw [if_neg q]
   have hq:∀ j,j=x→ce T S H xs j 0 % 4≠0:=fun j e=>by rw [e]; exact q
   rcases lw_spec n (x+1) (by omega) with h | h
   ·refine .inl ⟨h.1,fun j h1 h2=>?_⟩
    by_cases e:j=x
    ·exact hq j e
    ·exact h.2 j (by omega) (by omega)
   ·refine .inr ⟨by omega,by omega,h.2.2.1,fun j h1 h2=>?_⟩
    by_cases e:j=x
    ·exact hq j e
    ·exact h.2.2.2 j (by omega) (by omega)
structure Fin (T S C H K V L:Int) (l lv es:List Int) (r xs:List Int) (mv:List (Int × Int)):Prop where
 st:St T S C H K V L l lv es (C+1) xs mv
 wd:Wd T S C H K V L r
 cel:∀ i f,0≤i→i≤C→0≤f→f<6+H→ce T S H r i f=if ce T S H xs i 0 % 4=1∧6≤f then ren mv (ce T S H xs i f) else ce T S H xs i f
 out:∀ j,j<cellI T S H 0 0→rd r j=rd l j
theorem rcells_l1 (hlv:∀ h∈lv,hO C h):∀ (m:Nat) (x:Int) {xs:List Int} {mv:List (Int × Int)},St T S C H K V L l lv es x xs mv→1≤x→x+m=C+1→mv.length+m≤70→(∀ p∈mv,0≤p.2∧p.2<18446744073709551616)→∃ r xs' mv',Fin T S C H K V L l lv es r xs' mv'∧∀ k,m+1300≤k→sr22_Cells.l1 k T S C H K V L x (mv.map s79) xs=some (r,true)
 | 0,x,xs,mv,s,hx,hm,hb,hmu=>by
  have hC:=s.wd.r.c
  have hH:=s.wd.r.h
  obtain ⟨r,hr,h1,h2,h⟩:=rcells_l23 (mv:=mv) (by omega) hmu (C+1).toNat 0 s.wd (Int.le_refl 0) (by omega)
  have e:x=C+1:=by omega
  subst e
  refine ⟨r,xs,mv,⟨s,hr,fun i f i0 i1 f0 f1=>?_,fun j hj=>?_⟩,fun k hk=>?_⟩
  ·rw [h1 i f i0 i1 f0 f1]
   by_cases q:ce T S H xs i 0 % 4=1∧6≤f
   ·rw [if_pos ⟨i0,q⟩,if_pos q]
   ·rw [if_neg (fun z=>q z.2),if_neg q]
  ·rw [h2 j hj]
   refine s.out j ?_
   unfold cellI at hj ⊢
   omega
  ·obtain ⟨k,rfl⟩:∃ z,k=z+1:=⟨k - 1,by omega⟩
   rw [sr22_Cells.l1,if_neg (by omega)]
   exact h k (by omega)
 | m+1,x,xs,mv,s,hx,hm,hb,hmu=>by
  have hC:=s.wd.r.c
  have hH:=s.wd.r.h
  have hw:=s.wd
  have hu:=hw.rdu (cellI T S H x 0)
  by_cases q:rd xs (cellI T S H x 0) % 4=1
  ·rcases lw_spec (T:=T) (S:=S) (H:=H) (xs:=xs) (x - 1).toNat 1 (Int.le_refl 1) with h0 | h0
   ·obtain ⟨r,xs',mv',hF,h⟩:=rcells_l1 hlv m (x+1) (s.stay (fun _ j j0 j1=>h0.2 j j0 (by omega))) (by omega) (by omega) (by omega) hmu
    refine ⟨r,xs',mv',hF,fun k hk=>?_⟩
    obtain ⟨k,rfl⟩:∃ z,k=z+1:=⟨k - 1,by omega⟩
    rw [sr22_Cells.l1,if_pos (by omega),hw.rlowest (b:=x) (by omega) (by omega),hw.r22at (by omega) (by omega) (by omega) (by omega),wi64 (n:=x+1) (by omega) (by omega)]
    simp only [Option.bind_some]
    rw [ref_state hu.1]
    simp only [Option.bind_some]
    rw [q,if_pos rfl]
    simp only [Option.bind_some]
    rw [h0.1,if_neg (by decide)]
    exact h k (by omega)
   ·have hmo:=fun (k:Nat) (hk:100≤k)=>hw.moves (a:=x) (b:=lw T S H xs (x - 1).toNat 1) hx (by omega) h0.1 (by omega) (by omega) rfl (k:=k) hk
    obtain ⟨hk0,s'⟩:=s.move hlv hx (by omega) h0.1 (by omega) q h0.2.2.1 h0.2.2.2
    have hg2:=gn_range (hw.rdu (cellI T S H (lw T S H xs (x - 1).toNat 1) 0)).1
    obtain ⟨r,xs',mv',hF,h⟩:=rcells_l1 hlv m (x+1) s' (by omega) (by omega) (by rw [List.length_append,List.length_singleton]; omega) (fun p hp=>by
     rcases List.mem_append.1 hp with hp | hp
     ·exact hmu p hp
     ·rw [List.mem_singleton.1 hp]
      show 0≤oldF T S H (lw T S H xs (x - 1).toNat 1) xs∧oldF T S H (lw T S H xs (x - 1).toNat 1) xs<18446744073709551616
      unfold oldF hdl
      omega)
    refine ⟨r,xs',mv',hF,fun k hk=>?_⟩
    obtain ⟨k,rfl⟩:∃ z,k=z+1:=⟨k - 1,by omega⟩
    rw [sr22_Cells.l1,if_pos (by omega),hw.rlowest (b:=x) (by omega) (by omega),hw.r22at (by omega) (by omega) (by omega) (by omega),wi64 (n:=x+1) (by omega) (by omega)]
    simp only [Option.bind_some]
    rw [ref_state hu.1]
    simp only [Option.bind_some]
    rw [q,if_pos rfl]
    simp only [Option.bind_some]
    rw [if_pos (show decide (lw T S H xs (x - 1).toNat 1 > 0)=true from decide_eq_true (by omega)),(hmo k (by omega)).2.1]
    simp only [Option.bind_some]
    rw [if_pos (by rw [List.length_map]; omega)]
    have hh:=h k (by omega)
    rw [List.map_append] at hh
    exact hh
  ·obtain ⟨r,xs',mv',hF,h⟩:=rcells_l1 hlv m (x+1) (s.stay (fun z=>absurd z q)) (by omega) (by omega) (by omega) hmu
   refine ⟨r,xs',mv',hF,fun k hk=>?_⟩
   obtain ⟨k,rfl⟩:∃ z,k=z+1:=⟨k - 1,by omega⟩
   rw [sr22_Cells.l1,if_pos (by omega),hw.rlowest (b:=x) (by omega) (by omega),hw.r22at (by omega) (by omega) (by omega) (by omega),wi64 (n:=x+1) (by omega) (by omega)]
   simp only [Option.bind_some]
   rw [ref_state hu.1]
   simp only [Option.bind_some]
   rw [if_neg q]
   simp only [Option.bind_some]
   rw [if_neg (by decide)]
   exact h k (by omega)
end
end Go.Eng
namespace Go.Eng
open Go.Proofs Go.RowKit Go.Proofs.YtgbcnokeaaabfaaGreatW.PrintWords
set_option linter.unusedVariables false
set_option linter.unusedSimpArgs false
section
variable {T S C H K V L:Int} {l:List Int}
structure FrD (T S C H K V L:Int) (l dn xs:List Int):Prop where
 wd:Wd T S C H K V L xs
 fre:∀ e∈dn,ce T S H xs (ix e) 0=af (gn (ce T S H l (ix e) 0)) L
 oth:∀ i f,0≤i→i≤C→0≤f→f<6+H→(f≠0∨∀ e∈dn,ix e≠i)→ce T S H xs i f=ce T S H l i f
 out:∀ j,j<cellI T S H 1 0→rd xs j=rd l j
theorem FrD.step {dn xs:List Int} (s:FrD T S C H K V L l dn xs) {e:Int} (h0:1≤ix e) (h1:ix e≤C) (hne:∀ a∈dn,ix a≠ix e):FrD T S C H K V L l (dn ++ [e]) (frF T S H L (ix e) xs):=by
 have hH:=s.wd.r.h
 have hcs:=fun a b (a0:0≤a) (a1:a≤C) (b0:0≤b) (b1:b<6+H)=>ce_set s.wd (v:=af (gn (rd xs (cellI T S H (ix e) 0))) L) (i:=ix e) (f:=0) (by omega) h1 (Int.le_refl 0) (by omega) a0 a1 b0 b1
 have ee:ce T S H xs (ix e) 0=ce T S H l (ix e) 0:=s.oth _ 0 (by omega) h1 (by omega) (by omega) (.inr hne)
 refine ⟨(s.wd.frees (i:=ix e) (by omega) h1 rfl).2.2,fun a ha=>?_,fun i f i0 i1 f0 f1 q=>?_,fun j hj=>?_⟩
 ·rcases List.mem_append.1 ha with ha | ha
  ·have hr:0≤ix a∧(ix a≤C→ce T S H (frF T S H L (ix e) xs) (ix a) 0=ce T S H xs (ix a) 0):=⟨by unfold ix; omega,fun hb=>(hcs (ix a) 0 (by unfold ix; omega) hb (by omega) (by omega)).trans (if_neg (fun z=>hne a ha z.1.symm))⟩
   by_cases hb:ix a≤C
   ·rw [hr.2 hb]; exact s.fre a ha
   ·have:ce T S H (frF T S H L (ix e) xs) (ix a) 0=ce T S H xs (ix a) 0:=by
     obtain ⟨_,_,c0,c1⟩:=s.wd.cell (i:=ix e) (f:=0) (by omega) h1 (by omega) (by omega)
     unfold ce frF
     rw [rd_set (by omega),if_neg]
     intro z
     unfold cellI at z c0
     have h2:ix e * (6+H)+(6+H)≤ix a * (6+H):=by
      have:(ix e+1) * (6+H)≤ix a * (6+H):=Int.mul_le_mul_of_nonneg_right (by omega) (by omega)
      rw [Int.add_mul,Int.one_mul] at this
      exact this
     omega
    rw [this]; exact s.fre a ha
  ·rw [List.mem_singleton.1 ha]
   refine (hcs (ix e) 0 (by omega) h1 (by omega) (by omega)).trans ?_
   rw [if_pos ⟨rfl,rfl⟩,show rd xs (cellI T S H (ix e) 0)=ce T S H xs (ix e) 0 from rfl,ee]
 ·refine (hcs i f i0 i1 f0 f1).trans ?_
  rw [if_neg (fun z=>q.elim (fun y=>y z.2.symm) (fun y=>y e (List.mem_append.2 (.inr (List.mem_singleton_self e))) z.1))]
  exact s.oth i f i0 i1 f0 f1 (q.imp id (fun y a ha=>y a (List.mem_append.2 (.inl ha))))
 ·exact (rd_out s.wd h0 h1 (Int.le_refl 0) (by omega) hj).trans (s.out j hj)
structure Own (T S C H K V L:Int) (l lv es:List Int):Prop where
 wd:Wd T S C H K V L l
 good:∀ h∈lv ++ es,hO C h∧ce T S H l (ix h) 0=4 * ge h+1
 nd:((lv ++ es).map ix).Nodup
 tak:∀ i,1≤i→i≤C→ce T S H l i 0 % 4=1→∃ h∈lv ++ es,ix h=i
theorem Own.of (hw:Wd T S C H K V L l) {es:List Int} (hu:∀ e∈es,0≤e∧e<18446744073709551616) (hR:RestB T S C H K V L l es=true):Own T S C H K V L l (lvs T S C H K V L l 0) es:=by
 have hC:=hw.r.c
 have hH:=hw.r.h
 unfold RestB at hR
 simp only [Bool.and_eq_true] at hR
 obtain ⟨_,_,_,hO'⟩:=hR
 unfold ownB at hO'
 rw [Bool.and_eq_true] at hO'
 have hb:∀ h∈lvs T S C H K V L l 0 ++ es,0≤h∧h<18446744073709551616:=fun h hh=>by
  rcases List.mem_append.1 hh with hh | hh
  ·have:=hw.mem hh; omega
  ·exact hu h hh
 have good:∀ h∈lvs T S C H K V L l 0 ++ es,hO C h∧ce T S H l (ix h) 0=4 * ge h+1:=fun h hh=>by
  have hg:=List.all_eq_true.1 hO'.1 h hh
  have hbh:=hb h hh
  unfold goodB at hg
  rw [Bool.and_eq_true,Bool.and_eq_true,nm_is hbh.1 hbh.2] at hg
  obtain ⟨g1,g2,g3⟩:=hg
  simp only [Bool.and_eq_true,decide_eq_true_eq] at g1
  have g4:¬ h / 4611686018427387904 % 2=1:=by simpa using g2
  have g5:atF T S C H K V L l (h % 4294967296) 0=4 * (h / 4294967296 % 1073741824)+1:=beq_iff_eq.1 g3
  rw [hw.atc (by omega) (by omega) (by omega) (by omega)] at g5
  exact ⟨⟨g1.1.1,hbh.2,by omega,g1.1.2,g1.2⟩,g5⟩
 have tm:=fun i (h1:1≤i) (h2:i≤C)=>mks_iff.1 hO'.2 i h1 (by omega)
 refine ⟨hw,good,nd_of_cnt fun h hh=>?_,fun i i0 i1 q=>?_⟩
 ·have hg:=(good h hh).1.2.2.2
  have:=tm (ix h) hg.1 hg.2
  unfold tmB at this
  rw [Bool.and_eq_true] at this
  exact of_decide_eq_true this.1
 ·have:=tm i i0 i1
  unfold tmB at this
  rw [Bool.and_eq_true,hw.atc (by omega) i1 (by omega) (by omega),q] at this
  have h2:cntI (lvs T S C H K V L l 0 ++ es) i=1:=by
   have:=this.2
   simpa using this
  refine Classical.byContradiction fun hc=>?_
  have h3:=cnt_zero.2 (fun h hh e=>hc ⟨h,hh,e⟩)
  omega
theorem Own.start {lv es xs:List Int} (o:Own T S C H K V L l lv es) (s:FrD T S C H K V L l es xs):St T S C H K V L l lv es 1 xs []:=by
 have hC:=o.wd.r.c
 have hH:=o.wd.r.h
 have hLL:=o.wd.r.l
 have dis:∀ h∈lv,∀ e∈es,ix e≠ix h:=fun h hh e he q=>by
  have:=o.nd
  rw [List.map_append,List.nodup_append] at this
  exact this.2.2 (ix h) (List.mem_map.2 ⟨h,hh,rfl⟩) (ix e) (List.mem_map.2 ⟨e,he,rfl⟩) q.symm
 refine ⟨s.wd,fun h hh=>?_,fun a ha b hb e=>?_,fun i i0 i1 q=>?_,fun p hp=>absurd hp List.not_mem_nil,fun h hh => .inl rfl,fun e he=>?_,fun i j h1 h2 h3=>absurd h1 (by omega),s.out⟩
 ·obtain ⟨g1,g2⟩:=o.good h (List.mem_append.2 (.inl hh))
  have hi:=g1.2.2.2
  show hO C h∧ce T S H xs (ix h) 0=4 * ge h+1∧∀ f,1≤f→f<6+H→ce T S H xs (ix h) f=ce T S H l (ix h) f
  refine ⟨g1,?_,fun f f0 f1=>s.oth _ f (by omega) hi.2 (by omega) f1 (.inl (by omega))⟩
  exact (s.oth (ix h) 0 (by omega) hi.2 (by omega) (by omega) (.inr (dis h hh))).trans g2
 ·exact nd_inj o.nd a (List.mem_append.2 (.inl ha)) b (List.mem_append.2 (.inl hb)) e
 ·by_cases hd:∃ e∈es,ix e=i
  ·obtain ⟨e,he,rfl⟩:=hd
   rw [s.fre e he] at q
   unfold af at q
   split at q <;> omega
  ·rw [s.oth i 0 (by omega) i1 (by omega) (by omega) (.inr (fun e he z=>hd ⟨e,he,z⟩))] at q
   obtain ⟨h,hh,e⟩:=o.tak i i0 i1 q
   rcases List.mem_append.1 hh with hh | hh
   ·exact ⟨h,hh,e⟩
   ·exact absurd ⟨h,hh,e⟩ hd
 ·obtain ⟨g1,g2⟩:=o.good e (List.mem_append.2 (.inr he))
  have hi:=g1.2.2.2
  have hr:=ge_range e
  refine ⟨hi.1,hi.2,?_⟩
  unfold gone
  rw [s.fre e he,g2,gn_gen hr.1 hr.2 (by decide) (by decide)]
  unfold af
  split
  ·left; omega
  ·right; omega
theorem rcells_l0 {lv:List Int} {e2:List S47} (o:Own T S C H K V L l lv (e2.map (·.f0))) (hb:e2.length≤100):∀ (rest:List S47) (i:Nat) {xs:List Int},e2.drop i=rest→FrD T S C H K V L l ((e2.take i).map (·.f0)) xs→∃ r xs' mv',Fin T S C H K V L l lv (e2.map (·.f0)) r xs' mv'∧∀ k,rest.length+1500≤k→sr22_Cells.l0 k T S C H K V L e2 (i:Int) xs=some (r,true)
 | [],i,xs,hd,s=>by
  have h1:e2.length≤i:=List.drop_eq_nil_iff.1 hd
  have hC:=o.wd.r.c
  rw [List.take_of_length_le h1] at s
  obtain ⟨r,xs',mv',hF,h⟩:=rcells_l1 (fun h hh=>(o.good h (List.mem_append.2 (.inl hh))).1) C.toNat 1 (o.start s) (Int.le_refl 1) (by omega) (by rw [List.length_nil]; omega) (fun p hp=>absurd hp List.not_mem_nil)
  refine ⟨r,xs',mv',hF,fun k hk=>?_⟩
  rw [List.length_nil] at hk
  obtain ⟨k,rfl⟩:∃ z,k=z+1:=⟨k - 1,by omega⟩
  rw [sr22_Cells.l0,if_neg (by omega)]
  exact h k (by omega)
 | e :: rest,i,xs,hd,s=>by
  obtain ⟨h1,h2,h3⟩:=drop_cons' hd
  have r2:rd_T47 e2 (i:Int)=e:=by unfold rd_T47; rw [Int.toNat_natCast,List.getD_eq_getElem?_getD,h2]; rfl
  have hm:e.f0∈e2.map (·.f0):=List.mem_map.2 ⟨e,List.mem_of_getElem? h2,rfl⟩
  have hg:=(o.good e.f0 (List.mem_append.2 (.inr hm))).1
  have ht:(e2.take (i+1)).map (·.f0)=(e2.take i).map (·.f0) ++ [e.f0]:=by
   rw [List.take_add_one,h2,List.map_append]
   rfl
  have hne:∀ a∈(e2.take i).map (·.f0),ix a≠ix e.f0:=fun a ha q=>by
   have hn:=o.nd
   have e3:e2.map (·.f0)=((e2.take i).map (·.f0) ++ [e.f0]) ++ (e2.drop (i+1)).map (·.f0):=by rw [← ht,← List.map_append,List.take_append_drop]
   rw [e3,List.map_append,List.nodup_append] at hn
   have h4:=hn.2.1
   rw [List.map_append,List.nodup_append] at h4
   have h5:=h4.1
   rw [List.map_append,List.nodup_append] at h5
   exact h5.2.2 (ix a) (List.mem_map.2 ⟨a,ha,rfl⟩) (ix e.f0) (List.mem_map.2 ⟨e.f0,List.mem_singleton_self _,rfl⟩) q
  obtain ⟨r,xs',mv',hF,h⟩:=rcells_l0 o hb rest (i+1) (xs:=frF T S H L (ix e.f0) xs) h3 (by rw [ht]; exact s.step hg.2.2.2.1 hg.2.2.2.2 hne)
  refine ⟨r,xs',mv',hF,fun k hk=>?_⟩
  rw [List.length_cons] at hk
  obtain ⟨k,rfl⟩:∃ z,k=z+1:=⟨k - 1,by omega⟩
  have hgi:=hg.2.2.2
  rw [sr22_Cells.l0,if_pos (by omega),if_pos (by omega),r2,ref_index (by have:=hg.1; omega),wrap_succ (by omega)]
  simp only [Option.bind_some]
  rw [(s.wd.frees (i:=e.f0 % 4294967296) (by unfold ix at hgi; omega) hgi.2 rfl).2.1]
  simp only [Option.bind_some]
  exact h k (by omega)
theorem Cells_fin (hw:Wd T S C H K V L l) {k:Nat} (hk:2900≤k) (hl:l.length≤400) {e2:List S47} (hb:e2.length≤100) (hue:∀ e∈e2,0≤e.f0∧e.f0<18446744073709551616) (hR:RestB T S C H K V L l (e2.map (·.f0))=true):∃ r xs mv,Fin T S C H K V L l (lvs T S C H K V L l 0) (e2.map (·.f0)) r xs mv∧sr22_Cells.f k T S C H K V L l e2=some (r,true):=by
 have o:Own T S C H K V L l (lvs T S C H K V L l 0) (e2.map (·.f0)):=Own.of hw (fun a ha=>by obtain ⟨e,he,rfl⟩:=List.mem_map.1 ha; exact hue e he) hR
 obtain ⟨r,xs,mv,hF,h⟩:=rcells_l0 o hb e2 0 rfl (xs:=l) ⟨hw,fun e he=>absurd he List.not_mem_nil,fun _ _ _ _ _ _ _=>rfl,fun _ _=>rfl⟩
 refine ⟨r,xs,mv,hF,?_⟩
 unfold sr22_Cells.f
 rw [hw.rRest hk hb hue,hR]
 simp only [Option.bind_some]
 rw [if_pos trivial,if_pos (by rw [List.length_nil]; omega),List.nil_append]
 exact h k (by omega)
end
end Go.Eng
