/-
Own text, put together by an own program (shake.py) out of this claim's texts: what its theorem needs of them.
-/
import Derived.Test.YtgbcnokeaaabfaaGreatA10
namespace Go.Eng
open Go.Proofs Go.RowKit Go.Proofs.YtgbcnokeaaabfaaGreatW.PrintWords
set_option linter.unusedVariables false
set_option linter.unusedSimpArgs false
theorem concat_l1 {ll:List (List S53)} (hb:ll.length≤100):∀ (rest:List (List S53)) (k i:Nat) (xs:List S53),ll.drop i=rest→rest.length<k→xs.length+rest.flatten.length≤1000→slConcat.l1 k ll (i:Int) xs=some (xs ++ rest.flatten)
 | rest,0,i,xs,_,h,_=>absurd h (by omega)
 | [],k+1,i,xs,hd,_,_=>by
  have h1:ll.length≤i:=List.drop_eq_nil_iff.1 hd
  rw [slConcat.l1,if_neg (by omega)]
  simp
 | r :: rest,k+1,i,xs,hd,hk,hx=>by
  obtain ⟨h1,h2,h3⟩:=drop_cons' hd
  have e1:ll.getD (Int.toNat (i:Int)) []=r:=by rw [Int.toNat_natCast,List.getD_eq_getElem?_getD,h2]; rfl
  have e2:IntKind.wrap .i64 ((i:Int)+1)=((i+1:Nat):Int):=by rw [wi64 (by omega) (by omega)]; rfl
  rw [List.length_cons] at hk
  rw [List.flatten_cons,List.length_append] at hx
  rw [slConcat.l1,if_pos (by omega),if_pos (by omega),e1,if_pos (by omega),e2,concat_l1 hb rest k (i+1) (xs ++ r) h3 (by omega) (by rw [List.length_append]; omega),List.flatten_cons,List.append_assoc]
theorem concat_l0 {ll:List (List S53)} (hb:ll.length≤100) (ht:ll.flatten.length≤1000):∀ (rest:List (List S53)) (k i n:Nat),ll.drop i=rest→rest.length+200≤k→n+rest.flatten.length≤1000→slConcat.l0 k ll (n:Int) (i:Int)=some ll.flatten
 | rest,0,i,n,_,h,_=>absurd h (by omega)
 | [],k+1,i,n,hd,hk,hn=>by
  have h1:ll.length≤i:=List.drop_eq_nil_iff.1 hd
  rw [List.flatten_nil,List.length_nil] at hn
  rw [slConcat.l0,if_neg (by omega),if_pos (by omega),if_pos (by omega)]
  exact concat_l1 hb ll k 0 [] rfl (by simp only [List.length_nil] at hk; omega) (by simpa using ht)
 | r :: rest,k+1,i,n,hd,hk,hn=>by
  obtain ⟨h1,h2,h3⟩:=drop_cons' hd
  have e1:ll.getD (Int.toNat (i:Int)) []=r:=by rw [Int.toNat_natCast,List.getD_eq_getElem?_getD,h2]; rfl
  have e2:IntKind.wrap .i64 ((i:Int)+1)=((i+1:Nat):Int):=by rw [wi64 (by omega) (by omega)]; rfl
  rw [List.length_cons] at hk
  rw [List.flatten_cons,List.length_append] at hn
  have e3:IntKind.wrap .i64 ((n:Int)+(r.length:Int))=((n+r.length:Nat):Int):=by rw [wi64 (by omega) (by omega)]; rfl
  rw [slConcat.l0,if_pos (by omega),if_pos (by omega),e1,e3,if_neg (by omega),e2]
  exact concat_l0 hb ht rest k (i+1) (n+r.length) h3 (by omega) (by omega)
theorem concat_is {ll:List (List S53)} (hb:ll.length≤100) (ht:ll.flatten.length≤1000) {k:Nat} (hk:400≤k):slConcat.f k ll=some ll.flatten :=
 concat_l0 hb ht ll k 0 0 rfl (by omega) (by omega)
section
variable {T S C H K V L:Int} {l:List Int}
theorem where_iff (hr:R7 T S C H K V L) {y:Int} (h0:0≤y) (h1:y<lenI T S C H):∃ t a b,plan_Where.f T S C H K V L y=some (t,a,b)∧(t=2↔1≤y∧y<1+T * S):=by
 have hL:=lens hr
 have hH:=hr.h
 have hS:=hr.s
 have hN:lenI T S C H=1+T * S+(C+1) * (6+H):=rfl
 unfold plan_Where.f plan_first.f plan_fields.f
 rw [plan_Len_is,if_pos (r7_iff.2 hr)]
 simp only [Option.bind_some]
 rw [within_is,wi64 (n:=lenI T S C H - 1) (by omega) (by omega),decide_eq_true h0,decide_eq_true (show y≤lenI T S C H - 1 by omega),wi64 (n:=T * S) (by omega) (by omega),wi64 (n:=1+T * S) (by omega) (by omega),wi64 (n:=6+H) (by omega) (by omega)]
 simp only [Bool.and_self,Option.bind_some,if_true]
 by_cases hy:y=0
 ·rw [if_pos hy]
  exact ⟨_,_,_,rfl,fun h=>absurd h (by decide),fun h=>by omega⟩
 rw [if_neg hy,wi64 (n:=y - (1+T * S)) (by omega) (by omega)]
 by_cases hz:y - (1+T * S)<0
 ·rw [if_pos hz,if_pos (by omega)]
  exact ⟨_,_,_,rfl,fun _=>by omega,fun _=>rfl⟩
 ·rw [if_neg hz,if_pos (by omega),if_pos (by omega)]
  exact ⟨_,_,_,rfl,fun h=>absurd h (by decide),fun h=>by omega⟩
def zrB (T S:Int) (l:List Int) (y:Int):Bool:=!(decide (1≤y) && decide (y<1+T * S)) || rd l y == 0
theorem Wd.l1 (hw:Wd T S C H K V L l) (low own:List Int):∀ (m k:Nat) (y:Int),(l.length:Int)=y+m→0≤y→shape_Rest.l1 (m+1+k) T S C H K V L l low own y=if mks (zrB T S l) m y=true then shape_Rest.l2 k T S C H K V L l low own 0 else some false
 | 0,k,y,hy,h0=>by rw [show 0+1+k=k+1 by omega,shape_Rest.l1,if_neg (by omega)]; rfl
 | m+1,k,y,hy,h0=>by
  have hL:=lens hw.r
  have hN:lenI T S C H=1+T * S+(C+1) * (6+H):=rfl
  have hlen:=hw.len
  obtain ⟨tt,a,b,e,h2⟩:=where_iff hw.r h0 (show y<lenI T S C H by omega)
  have ih:=hw.l1 low own m k (y+1) (by omega) (by omega)
  rw [show m+1+1+k=(m+1+k)+1 by omega,shape_Rest.l1,if_pos (by omega),e,wi64 (n:=y+1) (by omega) (by omega),mks_succ]
  simp only [Option.bind_some]
  by_cases h:tt=2
  ·obtain ⟨q1,q2⟩:=h2.1 h
   rw [if_pos h,if_pos h0,ih,show zrB T S l y=(rd l y == 0) from by unfold zrB; rw [decide_eq_true q1,decide_eq_true q2]; rfl]
   by_cases hz:rd l y=0
   ·rw [if_pos hz,hz]; rfl
   ·rw [if_neg hz,show (rd l y == 0)=false from beq_eq_false_iff_ne.2 hz]; rfl
  ·have:zrB T S l y=true:=by
    unfold zrB
    have:=fun q=>h (h2.2 q)
    by_cases q1:1≤y
    ·rw [decide_eq_false (show ¬ y<1+T * S from fun q=>this ⟨q1,q⟩)]; simp
    ·rw [decide_eq_false q1]; rfl
   rw [if_neg h,ih,this]
   rfl
def rzB (T S:Int) (l:List Int):Bool:=mks (fun y=>rd l y == 0) (T * S).toNat 1
theorem zr_rz (hw:Wd T S C H K V L l):mks (zrB T S l) l.length 0=rzB T S l:=by
 have hL:=lens hw.r
 have hlen:=hw.len
 have hN:lenI T S C H=1+T * S+(C+1) * (6+H):=rfl
 unfold rzB
 rw [Bool.eq_iff_iff,mks_iff,mks_iff]
 refine ⟨fun h y h1 h2=>?_,fun h y h1 h2=>?_⟩
 ·have:=h y (by omega) (by omega)
  unfold zrB at this
  rw [decide_eq_true h1,decide_eq_true (show y<1+T * S by omega)] at this
  exact this
 ·unfold zrB
  by_cases q:1≤y∧y<1+T * S
  ·rw [h y q.1 (by omega)]; simp
  ·by_cases q1:1≤y
   ·rw [decide_eq_false (show ¬ y<1+T * S from fun q2=>q ⟨q1,q2⟩)]; simp
   ·rw [decide_eq_false q1]; rfl
theorem Wd.reserved (hw:Wd T S C H K V L l) {t r:Int} (h0:0≤t) (h1:t<T) (h2:0≤r) (h3:r<S):sr04_Reserved.f T S C H K V L t r=some (1+t * S+r)∧0≤t * S∧t * S+S≤T * S:=by
 have hT:=hw.r.t
 have hS:=hw.r.s
 have hm:=mul_range (a:=t) (b:=S) (p:=8) (q:=8) h0 (by omega) (by omega) (by omega)
 have hle:(t+1) * S≤T * S:=Int.mul_le_mul_of_nonneg_right (by omega) (by omega)
 rw [Int.add_mul,Int.one_mul] at hle
 refine ⟨?_,hm.1,hle⟩
 unfold sr04_Reserved.f
 rw [ref04_Right_is,r7_iff.2 hw.r]
 simp only [Option.bind_some,if_true]
 rw [if_neg (by omega),if_neg (by omega),if_neg (by omega),decide_eq_false (show ¬ r≥S by omega)]
 simp only [Option.bind_some,Bool.false_eq_true,if_false]
 rw [wi64 (n:=t * S) (by omega) (by omega),wi64 (n:=1+t * S) (by omega) (by omega),wi64 (by omega) (by omega)]
theorem Wd.rl1 (hw:Wd T S C H K V L l) (l2:List S47) {t:Int} (h0:0≤t) (h1:t<T):∀ (m k:Nat) (x:Int),S=x+m→0≤x→sr21_Rest.l1 (m+1+k) T S C H K V L l l2 t x=if mks (fun r=>rd l (1+t * S+r) == 0) m x=true then sr21_Rest.l0 k T S C H K V L l l2 (t+1) else some false
 | 0,k,x,hx,hx0=>by
  have hT:=hw.r.t
  rw [show 0+1+k=k+1 by omega,sr21_Rest.l1,if_neg (by omega),wi64 (n:=t+1) (by omega) (by omega)]
  rfl
 | m+1,k,x,hx,hx0=>by
  have hS:=hw.r.s
  have hL:=lens hw.r
  have hlen:=hw.len
  have hN:lenI T S C H=1+T * S+(C+1) * (6+H):=rfl
  obtain ⟨e,e1,e2⟩:=hw.reserved h0 h1 hx0 (show x<S by omega)
  rw [show m+1+1+k=(m+1+k)+1 by omega,sr21_Rest.l1,if_pos (by omega),e,wi64 (n:=x+1) (by omega) (by omega),hw.rl1 l2 h0 h1 m k (x+1) (by omega) (by omega),mks_succ]
  simp only [Option.bind_some]
  rw [if_pos (by omega),if_pos (by omega)]
  by_cases hz:rd l (1+t * S+x)=0
  ·rw [if_pos hz,hz]; rfl
  ·rw [if_neg hz,show (rd l (1+t * S+x) == 0)=false from beq_eq_false_iff_ne.2 hz]; rfl
theorem Wd.rl0 (hw:Wd T S C H K V L l) (l2:List S47):∀ (m k:Nat) (t:Int),T=t+m→0≤t→sr21_Rest.l0 (m * (S.toNat+2)+1+k) T S C H K V L l l2 t=if mks (fun t=>mks (fun r=>rd l (1+t * S+r) == 0) S.toNat 0) m t=true then sr21_Rest.l2 k T S C H K V L l l2 0 else some false
 | 0,k,t,ht,h0=>by rw [show 0 * (S.toNat+2)+1+k=k+1 by omega,sr21_Rest.l0,if_neg (by omega)]; rfl
 | m+1,k,t,ht,h0=>by
  have hS:=hw.r.s
  have e:(m+1) * (S.toNat+2)+1+k=(S.toNat+1+(m * (S.toNat+2)+1+k))+1:=by rw [Nat.succ_mul]; omega
  rw [e,sr21_Rest.l0,if_pos (by omega),hw.rl1 l2 h0 (by omega) S.toNat _ 0 (by omega) (Int.le_refl _),hw.rl0 l2 m k (t+1) (by omega) (by omega),mks_succ]
  cases mks (fun r=>rd l (1+t * S+r) == 0) S.toNat 0 <;> rfl
theorem rr_rz (hw:Wd T S C H K V L l):mks (fun t=>mks (fun r=>rd l (1+t * S+r) == 0) S.toNat 0) T.toNat 0=rzB T S l:=by
 have hL:=lens hw.r
 have hS:=hw.r.s
 have hT:=hw.r.t
 unfold rzB
 rw [Bool.eq_iff_iff,mks_iff,mks_iff]
 refine ⟨fun h y h1 h2=>?_,fun h t h1 h2=>mks_iff.2 fun r h3 h4=>?_⟩
 ·have hd:=Int.mul_ediv_add_emod (y - 1) S
  have h3:=Int.emod_nonneg (y - 1) (show S≠0 by omega)
  have h4:=Int.emod_lt_of_pos (y - 1) (show 0<S by omega)
  have h5:0≤(y - 1) / S:=Int.ediv_nonneg (by omega) (by omega)
  have h6:(y - 1) / S<T:=Int.ediv_lt_of_lt_mul (by omega) (by omega)
  have:=mks_iff.1 (h ((y - 1) / S) h5 (by omega)) ((y - 1) % S) h3 (by omega)
  rw [Int.mul_comm] at hd
  rw [show 1+(y - 1) / S * S+(y - 1) % S=y by omega] at this
  exact this
 ·obtain ⟨_,e1,e2⟩:=hw.reserved h1 (show t<T by omega) h3 (show r<S by omega)
  exact h (1+t * S+r) (by omega) (by omega)
def lvB (T S C H K V L:Int) (l:List Int) (lev:Int):Bool:=(lvs T S C H K V L l lev).all (fun h=>(lvs T S C H K V L l 0).contains h && stB T S C H K V L l h)
theorem Wd.b3 (hw:Wd T S C H K V L l) (hR:RightB T S C H K V L l=true) {lev:Int} (h0:0≤lev) (h1:lev<H) {k:Nat} (hk:1500≤k) (κ:Unit→Option Bool):∀ ys:List (Int × Int),(∀ p∈ys,p.2∈lvs T S C H K V L l lev)→rng (shape_Rest.b3 k T S C H K V L l (lvs T S C H K V L l 0)) ys κ ()=if (ys.map (·.2)).all (fun h=>(lvs T S C H K V L l 0).contains h && stB T S C H K V L l h)=true then κ () else some false
 | [],_=>rfl
 | p :: ys,hm=>by
  have hH:=hw.r.h
  have hp:=hm p List.mem_cons_self
  have hh:=hw.mem hp
  have hlen:=hw.len_ (Int.le_refl 0) (show (0:Int)<H by omega)
  have unf:rng (shape_Rest.b3 k T S C H K V L l (lvs T S C H K V L l 0)) (p :: ys) κ ()=shape_Rest.b3 k T S C H K V L l (lvs T S C H K V L l 0) (fun s'=>rng (shape_Rest.b3 k T S C H K V L l (lvs T S C H K V L l 0)) ys κ s') p.1 p.2 ():=rfl
  have step:∀ κ':Unit→Option Bool,shape_Rest.b3 k T S C H K V L l (lvs T S C H K V L l 0) κ' p.1 p.2 ()=if ((lvs T S C H K V L l 0).contains p.2 && stB T S C H K V L l p.2)=true then κ' () else some false:=by
   intro κ'
   unfold shape_Rest.b3
   rw [contains_is (by omega) p.2 (by omega),hw.settled (by omega) hh.2.2.2 (RightB_tall hR h0 h1 hp) hk]
   cases (lvs T S C H K V L l 0).contains p.2 <;> cases stB T S C H K V L l p.2 <;> rfl
  rw [unf,step,hw.b3 hR h0 h1 hk κ ys (fun q hq=>hm q (List.mem_cons_of_mem _ hq)),List.map_cons,List.all_cons]
  cases ((lvs T S C H K V L l 0).contains p.2 && stB T S C H K V L l p.2) <;> rfl
theorem rd_rep0 (n:Nat) (j:Int):rd (List.replicate n (0:Int)) j=0:=by
 unfold rd
 rw [List.getD_eq_getElem?_getD,List.getElem?_replicate]
 split <;> rfl
def ownB (T S C H K V L:Int) (l own:List Int):Bool:=own.all (goodB T S C H K V L l) && mks (tmB T S C H K V L l own) C.toNat 1
theorem Wd.l2 (hw:Wd T S C H K V L l) (hR:RightB T S C H K V L l=true) {own:List Int} (ho:own.length≤500) (hu:∀ h∈own,0≤h∧h<18446744073709551616):∀ (m k:Nat) (x:Int),0≤x→(H - x).toNat=m→m+2001≤k→shape_Rest.l2 k T S C H K V L l (lvs T S C H K V L l 0) own x=some (mks (lvB T S C H K V L l) m x && ownB T S C H K V L l own)
 | m,0,x,_,_,h=>absurd h (by omega)
 | 0,k+1,x,hx,hm,hk=>by
  have hC:=hw.r.c
  rw [shape_Rest.l2,if_neg (by omega),wi64 (n:=C+1) (by omega) (by omega),if_pos (by omega),if_pos (by omega)]
  have:=hw.l4 ho hu own k 0 (List.replicate (Int.toNat (C+1)) 0) rfl (by rw [List.length_replicate]; omega) (fun j _ _=>by rw [rd_rep0]; rfl) (by omega)
  exact this
 | m+1,k+1,x,hx,hm,hk=>by
  have hH:=hw.r.h
  rw [shape_Rest.l2,if_pos (by omega),if_pos (hw.ok hx (by omega)),if_pos (by omega),hw.b3 hR hx (by omega) (by omega) _ _ (fun p hp=>List.mem_map.2 ⟨p,hp,rfl⟩),wi64 (n:=x+1) (by omega) (by omega),hw.l2 hR ho hu m k (x+1) (by omega) (by omega) (by omega),mks_succ]
  show (if lvB T S C H K V L l x=true then _ else _)=_
  cases lvB T S C H K V L l x <;> rfl
theorem Wd.rl4 (hw:Wd T S C H K V L l) {l2:List S47} (hb:l2.length≤500):∀ (rest:List S47) (k i:Nat) (xs:List Int),l2.drop i=rest→xs.length+rest.length≤1000→sr21_Rest.l4 (rest.length+1+k) T S C H K V L l l2 (i:Int) xs=sr21_Rest.l5 k T S C H K V L l (xs ++ rest.map (·.f0)) 1
 | [],k,i,xs,hd,hx=>by
  have h1:l2.length≤i:=List.drop_eq_nil_iff.1 hd
  rw [show ([]:List S47).length+1+k=k+1 by simp; omega,sr21_Rest.l4,if_neg (by omega)]
  simp
 | r :: rest,k,i,xs,hd,hx=>by
  obtain ⟨h1,h2,h3⟩:=drop_cons' hd
  have e1:rd_T47 l2 (i:Int)=r:=by unfold rd_T47; rw [Int.toNat_natCast,List.getD_eq_getElem?_getD,h2]; rfl
  have e2:IntKind.wrap .i64 ((i:Int)+1)=((i+1:Nat):Int):=by rw [wi64 (by omega) (by omega)]; rfl
  rw [List.length_cons] at hx
  rw [show (r :: rest).length+1+k=(rest.length+1+k)+1 by rw [List.length_cons]; omega,sr21_Rest.l4,if_pos (by omega),if_pos (by omega),if_pos (by omega),e1,e2,hw.rl4 hb rest k (i+1) _ h3 (by rw [List.length_append,List.length_singleton]; omega),List.map_cons,List.append_assoc]
  rfl
theorem Wd.rl3 (hw:Wd T S C H K V L l) (hR:RightB T S C H K V L l=true) (l2:List S47) {lev:Int} (h0:0≤lev) (h1:lev<H) {ys:List Int} (hys:ys.length≤100) (hm:∀ h∈ys,h∈lvs T S C H K V L l lev) {k:Nat} (hk:1500≤k):∀ (rest:List Int) (i:Nat),ys.drop i=rest→sr21_Rest.l3 (rest.length+1+k) T S C H K V L l l2 lev ys (i:Int)=if rest.all (fun h=>(lvs T S C H K V L l 0).contains h && stB T S C H K V L l h)=true then sr21_Rest.l2 k T S C H K V L l l2 (lev+1) else some false
 | [],i,hd=>by
  have hH:=hw.r.h
  have hl:ys.length≤i:=List.drop_eq_nil_iff.1 hd
  rw [show ([]:List Int).length+1+k=k+1 by simp; omega,sr21_Rest.l3,if_neg (by omega),wi64 (n:=lev+1) (by omega) (by omega)]
  rfl
 | h :: rest,i,hd=>by
  obtain ⟨hi,hg,hr⟩:=drop_cons' hd
  have e1:rd ys (i:Int)=h:=by unfold rd; rw [Int.toNat_natCast,List.getD_eq_getElem?_getD,hg]; rfl
  have e2:IntKind.wrap .i64 ((i:Int)+1)=((i+1:Nat):Int):=by rw [wi64 (by omega) (by omega)]; rfl
  have hp:=hm h (List.mem_of_getElem? hg)
  have hh:=hw.mem hp
  rw [show (h :: rest).length+1+k=(rest.length+1+k)+1 by rw [List.length_cons]; omega,sr21_Rest.l3,if_pos (by omega),if_pos (by omega),e1,hw.rsettled hh.1 (by omega) hh.2.2.2 (RightB_tall hR h0 h1 hp) (by omega),e2,hw.rl3 hR l2 h0 h1 hys hm hk rest (i+1) hr,List.all_cons]
  simp only [Option.bind_some]
  cases (lvs T S C H K V L l 0).contains h <;> cases stB T S C H K V L l h <;> rfl
theorem Wd.rl2 (hw:Wd T S C H K V L l) (hR:RightB T S C H K V L l=true) {l2:List S47} (hb:l2.length≤300) (hu:∀ h∈lvs T S C H K V L l 0 ++ l2.map (·.f0),0≤h∧h<18446744073709551616):∀ (m k:Nat) (x:Int),0≤x→(H - x).toNat=m→70 * m+2000≤k→sr21_Rest.l2 k T S C H K V L l l2 x=some (mks (lvB T S C H K V L l) m x && ownB T S C H K V L l (lvs T S C H K V L l 0 ++ l2.map (·.f0)))
 | m,0,x,_,_,h=>absurd h (by omega)
 | 0,k+1,x,hx,hm,hk=>by
  have hH:=hw.r.h
  have hlen:=hw.len_ (Int.le_refl 0) (show (0:Int)<H by omega)
  obtain ⟨k',rfl⟩:∃ k',k=l2.length+1+k':=⟨k - l2.length - 1,by omega⟩
  have e4:=hw.rl4 (l2:=l2) (by omega) l2 k' 0 (lvs T S C H K V L l 0) rfl (by omega)
  rw [show ((0:Nat):Int)=0 from rfl] at e4
  rw [sr21_Rest.l2,if_neg (by omega),hw.rlevel (by omega) (Int.le_refl 0) (by omega)]
  simp only [Option.bind_some]
  rw [e4,hw.rl5' (by rw [List.length_append,List.length_map]; omega) hu (by omega)]
  rfl
 | m+1,k+1,x,hx,hm,hk=>by
  have hH:=hw.r.h
  have hlen:=hw.len_ hx (show x<H by omega)
  obtain ⟨k',rfl⟩:∃ k',k=(lvs T S C H K V L l x).length+1+k':=⟨k - (lvs T S C H K V L l x).length - 1,by omega⟩
  have e3:=hw.rl3 hR l2 hx (show x<H by omega) (ys:=lvs T S C H K V L l x) (by omega) (fun h hh=>hh) (k:=k') (by omega) (lvs T S C H K V L l x) 0 rfl
  rw [show ((0:Nat):Int)=0 from rfl] at e3
  rw [sr21_Rest.l2,if_pos (by omega),hw.rlevel (by omega) hx (by omega)]
  simp only [Option.bind_some]
  rw [e3,hw.rl2 hR hb hu m k' (x+1) (by omega) (by omega) (by omega),mks_succ]
  show (if lvB T S C H K V L l x=true then _ else _)=_
  cases lvB T S C H K V L l x <;> rfl
def RestB (T S C H K V L:Int) (l es:List Int):Bool:=RightB T S C H K V L l && (rzB T S l && (mks (lvB T S C H K V L l) H.toNat 0 && ownB T S C H K V L l (lvs T S C H K V L l 0 ++ es)))
theorem Wd.l0 (hw:Wd T S C H K V L l) (low:List Int) {es:List S53} (hb:es.length≤300):∀ (rest:List S53) (k i:Nat) (xs:List Int),es.drop i=rest→xs.length+rest.length≤1000→shape_Rest.l0 (rest.length+1+k) T S C H K V L l low es (i:Int) xs=shape_Rest.l1 k T S C H K V L l low (xs ++ rest.map (·.f0)) 0
 | [],k,i,xs,hd,hx=>by
  have h1:es.length≤i:=List.drop_eq_nil_iff.1 hd
  rw [show ([]:List S53).length+1+k=k+1 by simp; omega,shape_Rest.l0,if_neg (by omega)]
  simp
 | r :: rest,k,i,xs,hd,hx=>by
  obtain ⟨h1,h2,h3⟩:=drop_cons' hd
  have e1:rd_T53 es (i:Int)=r:=by unfold rd_T53; rw [Int.toNat_natCast,List.getD_eq_getElem?_getD,h2]; rfl
  have e2:IntKind.wrap .i64 ((i:Int)+1)=((i+1:Nat):Int):=by rw [wi64 (by omega) (by omega)]; rfl
  rw [List.length_cons] at hx
  rw [show (r :: rest).length+1+k=(rest.length+1+k)+1 by rw [List.length_cons]; omega,shape_Rest.l0,if_pos (by omega),if_pos (by omega),if_pos (by omega),e1,e2,hw.l0 low hb rest k (i+1) _ h3 (by rw [List.length_append,List.length_singleton]; omega),List.map_cons,List.append_assoc]
  rfl
theorem Wd.Rest (hw:Wd T S C H K V L l) (hl:l.length≤400) {ll:List (List S53)} (h1:ll.length≤100) (h2:ll.flatten.length≤100) (hu:∀ e∈ll.flatten,0≤e.f0∧e.f0<18446744073709551616):shape_Rest.f 3000 T S C H K V L l ll=some (RestB T S C H K V L l (ll.flatten.map (·.f0))):=by
 have hH:=hw.r.h
 have hlen:=hw.len_ (Int.le_refl 0) (show (0:Int)<H by omega)
 unfold shape_Rest.f RestB
 rw [hw.Right (k:=3000) (by decide)]
 simp only [Option.bind_some]
 cases hR:RightB T S C H K V L l with
 | false=>rfl
 | true =>
  rw [if_pos rfl,hw.level (k:=3000) (by decide) (Int.le_refl 0) (by omega)]
  simp only [Option.bind_some]
  rw [if_pos (by omega),concat_is (k:=3000) h1 (by omega) (by decide)]
  simp only [Option.bind_some]
  generalize ll.flatten=es at h2 hu
  have ho:(lvs T S C H K V L l 0 ++ es.map (·.f0)).length≤500:=by rw [List.length_append,List.length_map]; omega
  have hou:∀ h∈lvs T S C H K V L l 0 ++ es.map (·.f0),0≤h∧h<18446744073709551616:=fun h hh=>by
   rcases List.mem_append.1 hh with hh | hh
   ·have:=hw.mem hh; omega
   ·obtain ⟨e,he,rfl⟩:=List.mem_map.1 hh; exact hu e he
  have e0:=hw.l0 (lvs T S C H K V L l 0) (es:=es) (by omega) es (2999 - es.length) 0 (lvs T S C H K V L l 0) rfl (by omega)
  rw [show es.length+1+(2999 - es.length)=3000 by omega,show ((0:Nat):Int)=0 from rfl] at e0
  have e1:=hw.l1 (lvs T S C H K V L l 0) (lvs T S C H K V L l 0 ++ es.map (·.f0)) l.length (2998 - es.length - l.length) 0 (by omega) (Int.le_refl 0)
  rw [show l.length+1+(2998 - es.length - l.length)=2999 - es.length by omega] at e1
  rw [e0,e1,zr_rz hw,hw.l2 hR ho hou H.toNat _ 0 (Int.le_refl 0) (by omega) (by omega)]
  cases rzB T S l <;> rfl
theorem Wd.rRest (hw:Wd T S C H K V L l) {l2:List S47} (h2:l2.length≤100) (hu:∀ e∈l2,0≤e.f0∧e.f0<18446744073709551616):sr21_Rest.f 3000 T S C H K V L l l2=some (RestB T S C H K V L l (l2.map (·.f0))):=by
 have hH:=hw.r.h
 have hT:=hw.r.t
 have hS:=hw.r.s
 unfold sr21_Rest.f RestB
 rw [hw.rRight (k:=3000) (by decide)]
 simp only [Option.bind_some]
 cases hR:RightB T S C H K V L l with
 | false=>rfl
 | true =>
  have hou:∀ h∈lvs T S C H K V L l 0 ++ l2.map (·.f0),0≤h∧h<18446744073709551616:=fun h hh=>by
   rcases List.mem_append.1 hh with hh | hh
   ·have:=hw.mem hh; omega
   ·obtain ⟨e,he,rfl⟩:=List.mem_map.1 hh; exact hu e he
  have hm:T.toNat * (S.toNat+2)≤8 * 10:=Nat.mul_le_mul (by omega) (by omega)
  have e0:=hw.rl0 l2 T.toNat (2999 - T.toNat * (S.toNat+2)) 0 (by omega) (Int.le_refl 0)
  rw [show T.toNat * (S.toNat+2)+1+(2999 - T.toNat * (S.toNat+2))=3000 by omega] at e0
  rw [if_pos rfl,e0,rr_rz hw,hw.rl2 hR (by omega) hou H.toNat _ 0 (Int.le_refl 0) (by omega) (by omega)]
  cases rzB T S l <;> rfl
theorem noRest (h:¬ (R7 T S C H K V L∧(l.length:Int)=lenI T S C H)) (ll:List (List S53)) (l2:List S47):shape_Rest.f 3000 T S C H K V L l ll=some false∧sr21_Rest.f 3000 T S C H K V L l l2=some false:=by
 have e:(r7 T S C H K V L && decide ((l.length:Int)=lenI T S C H))=false:=by
  rw [← Bool.not_eq_true,Bool.and_eq_true,decide_eq_true_eq,r7_iff]
  exact h
 constructor
 ·unfold shape_Rest.f shape_Right.f
  rw [whole_is,e]
  rfl
 ·have hwh:sr21_whole.f T S C H K V L l=some false:=by
   unfold sr21_whole.f
   rw [ref04_Right_is,ref04_Len_is]
   simp only [Option.bind_some]
   cases h7:r7 T S C H K V L with
   | false=>rfl
   | true =>
    rw [h7,Bool.true_and] at e
    simp only [if_true,Option.bind_some]
    rw [show ((l.length:Int) == lenI T S C H)=false from beq_eq_false_iff_ne.2 (of_decide_eq_false e)]
  unfold sr21_Rest.f sr21_Right.f
  rw [hwh]
  rfl
end
end Go.Eng
namespace Go.Eng
open Go.Proofs Go.RowKit Go.Proofs.YtgbcnokeaaabfaaGreatW.PrintWords
set_option linter.unusedVariables false
set_option linter.unusedSimpArgs false
theorem packed_is {s g:Int} (hs0:0≤s) (hs1:s<4) (h0:0≤g) (h1:g<1073741824):slot_word_packed.f s g=some (4 * g+s):=by
 have key:∀ n s:Nat,n<1073741824→s<4→(IntKind.wrap .u64 (BitVec.ofInt (IntKind.bits .u64) (4 * (n:Int)) ||| BitVec.ofInt (IntKind.bits .u64) (s:Int)).toNat:Int)=4 * (n:Int)+s:=by
  intro n s hn hs
  have e:(BitVec.ofInt 64 (4 * (n:Int)) ||| BitVec.ofInt 64 (s:Int)).toNat=4 * n+s:=by
   rw [BitVec.toNat_or,show (4 * (n:Int))=((4 * n:Nat):Int) by omega,BitVec.ofInt_natCast,BitVec.ofInt_natCast,BitVec.toNat_ofNat,BitVec.toNat_ofNat,Nat.mod_eq_of_lt (by omega),Nat.mod_eq_of_lt (by omega)]
   have:=Nat.shiftLeft_add_eq_or_of_lt (show s<2 ^ 2 by omega) n
   rw [Nat.shiftLeft_eq,show n * 2 ^ 2=4 * n by omega] at this
   exact this.symm
  rw [show IntKind.bits .u64=64 from rfl,e,wu64 (by omega) (by omega)]
  omega
 unfold slot_word_packed.f
 have e2:((2:Int) ^ (min (Int.toNat 2) (IntKind.bits .u64)))=4:=by decide
 have:=key g.toNat s.toNat (by omega) (by omega)
 rw [show ((g.toNat:Nat):Int)=g by omega,show ((s.toNat:Nat):Int)=s by omega] at this
 rw [wu64 h0 (by omega),e2,wu64 (n:=g * 4) (by omega) (by omega),wu64 hs0 (by omega),show g * 4=4 * g by omega,this]
def gn (x:Int):Int:=if x / 4 > 1073741823 then 1073741823 else x / 4
theorem gn_range {x:Int} (h0:0≤x):0≤gn x∧gn x<1073741824:=by
 unfold gn
 split <;> omega
theorem sgen_is {x:Int} (h0:0≤x) (h1:x<18446744073709551616):slot_Gen.f x=some (gn x):=by
 unfold slot_Gen.f gn
 have e:((2:Int) ^ (min (Int.toNat 2) (IntKind.bits .u64)))=4:=by decide
 rw [e,Int.fdiv_eq_ediv_of_nonneg _ (by decide)]
 by_cases q:x / 4 > 1073741823
 ·rw [if_pos q]
  rfl
 ·rw [if_neg q,wi64 (by omega) (by omega)]
theorem rgen_is {x:Int} (h0:0≤x) (h1:x<18446744073709551616):sr02_Gen.f x=some (gn x):=by
 unfold sr02_Gen.f gn
 rw [Int.tdiv_eq_ediv_of_nonneg h0,wu64 (n:=x / 4) (by omega) (by omega)]
 by_cases q:x / 4 > 1073741823
 ·rw [if_pos q,if_pos q]
 ·rw [if_neg q,if_neg q,wi64 (by omega) (by omega)]
def af (g L:Int):Int:=if g≥L then 4 * L+2 else 4 * g+4
theorem after_is {g L:Int} (h0:0≤g) (h1:g<1073741824) (l0:0≤L) (l1:L≤1073741823):slot_After.f g L=some (af g L):=by
 unfold slot_After.f af
 have e:(if (0:Int)<(if (1073741823:Int)<L then 1073741823 else L) then (if (1073741823:Int)<L then 1073741823 else L) else 0)=L:=by
  rw [if_neg (show ¬ (1073741823:Int)<L by omega)]
  split <;> omega
 rw [e,if_neg (show ¬ g<0 by omega)]
 by_cases q:g≥L
 ·rw [if_pos q,if_pos q,packed_is (by decide) (by decide) l0 (by omega)]
  rfl
 ·rw [if_neg q,if_neg q,wi64 (n:=g+1) (by omega) (by omega),packed_is (by decide) (by decide) (by omega) (by omega)]
  simp only [Option.bind_some]
  congr 1
  omega
theorem rafter_is {g L:Int} (h0:0≤g) (h1:g<1073741824) (l0:0≤L) (l1:L≤1073741823):sr02_After.f g L=some (af g L):=by
 unfold sr02_After.f af
 rw [if_neg (show ¬ g<0 by omega),if_neg (show ¬ L<0 by omega)]
 simp only [Option.bind_some]
 rw [if_neg (show ¬ L > 1073741823 by omega)]
 simp only [Option.bind_some]
 by_cases q:g≥L
 ·rw [if_pos q,if_pos q,wi64 (n:=4 * L) (by omega) (by omega),wi64 (by omega) (by omega),wu64 (by omega) (by omega)]
 ·rw [if_neg q,if_neg q,wi64 (n:=4 * g) (by omega) (by omega),wi64 (by omega) (by omega),wu64 (by omega) (by omega)]
def hdl (a g:Int):Int:=9223372036854775808+4294967296 * g+a
theorem or64_add {x y m:Nat} (hx:x * 2 ^ m<18446744073709551616) (hy:y<2 ^ m) (hs:x * 2 ^ m+y<18446744073709551616):or64 ((x * 2 ^ m:Nat):Int) (y:Int)=((x * 2 ^ m+y:Nat):Int):=by
 have e:(BitVec.ofInt 64 ((x * 2 ^ m:Nat):Int) ||| BitVec.ofInt 64 (y:Int)).toNat=x * 2 ^ m+y:=by
  rw [BitVec.toNat_or,BitVec.ofInt_natCast,BitVec.ofInt_natCast,BitVec.toNat_ofNat,BitVec.toNat_ofNat,Nat.mod_eq_of_lt (show x * 2 ^ m<2 ^ 64 from hx),Nat.mod_eq_of_lt (show y<2 ^ 64 by omega)]
  have:=Nat.shiftLeft_add_eq_or_of_lt hy x
  rw [Nat.shiftLeft_eq] at this
  exact this.symm
 unfold or64
 rw [show IntKind.bits .u64=64 from rfl,e,wu64 (by omega) (by omega)]
theorem wth_is {n m:Int} (h0:0≤n) (h1:n≤m):wth n m=n:=by
 unfold wth handle_within.f
 simp only [Option.getD_some]
 repeat (first | omega | split)
theorem pk0_is {a g:Int} (a0:0≤a) (a1:a<4294967296) (g0:0≤g) (g1:g<1073741824):pk0 a g=(hdl a g,true):=by
 unfold pk0
 rw [wth_is a0 (by omega),wth_is g0 (by omega),if_pos (by simp)]
 have e1:h9 a g 1=9223372036854775808:=by
  show or64 0 9223372036854775808=_
  decide
 have e2:h9 a g 2=9223372036854775808+4294967296 * g:=by
  show or64 (h9 a g 1) (IntKind.wrap .u64 ((IntKind.wrap .u64 g) * 2 ^ (min (Int.toNat 32) (IntKind.bits .u64))))=_
  have e:((2:Int) ^ (min (Int.toNat 32) (IntKind.bits .u64)))=4294967296:=by decide
  rw [e1,e,wu64 g0 (by omega),wu64 (n:=g * 4294967296) (by omega) (by omega)]
  have:=or64_add (x:=1) (y:=(g * 4294967296).toNat) (m:=63) (by decide) (by omega) (by omega)
  rw [show ((1 * 2 ^ 63:Nat):Int)=9223372036854775808 by decide,show (((g * 4294967296).toNat:Nat):Int)=g * 4294967296 by omega] at this
  rw [this]
  omega
 have e3:h9 a g 3=hdl a g:=by
  show or64 (h9 a g 2) (IntKind.wrap .u64 a)=_
  rw [e2,wu64 a0 (by omega)]
  have:=or64_add (x:=2147483648+g.toNat) (y:=a.toNat) (m:=32) (by omega) (by omega) (by omega)
  rw [show (((2147483648+g.toNat) * 2 ^ 32:Nat):Int)=9223372036854775808+4294967296 * g by omega,show ((a.toNat:Nat):Int)=a by omega] at this
  rw [this]
  unfold hdl
  omega
 rw [e3]
theorem of_hdl {a g:Int} (a0:0≤a) (a1:a<4294967296) (g0:0≤g) (g1:g<1073741824):sr01_Of.f a g=some (hdl a g):=by
 unfold sr01_Of.f sr01_Pack.f hdl
 rw [if_neg (by omega),if_neg (by omega),if_neg (by omega),decide_eq_false (show ¬ g > 1073741823 by omega)]
 simp only [Option.bind_some,Bool.false_eq_true,if_false]
 rw [wu64 g0 (by omega),wu64 (n:=4294967296 * g) (by omega) (by omega),wu64 (n:=9223372036854775808+4294967296 * g) (by omega) (by omega),wu64 a0 (by omega),wu64 (by omega) (by omega)]
section
variable {T S C H K V L:Int} {l:List Int}
theorem Wd.set (hw:Wd T S C H K V L l) {i f v:Int} (hv:0≤v∧v<18446744073709551616):Wd T S C H K V L (l.set (Int.toNat (cellI T S H i f)) v) :=
 ⟨hw.r,by rw [List.length_set]; exact hw.len,fun x hx=>by
  rcases List.mem_or_eq_of_mem_set hx with hx | rfl
  ·exact hw.u x hx
  ·exact hv⟩
theorem Wd.cell (hw:Wd T S C H K V L l) {i f:Int} (h0:0≤i) (h1:i≤C) (h2:0≤f) (h3:f<6+H):plan_Cell.f T S C H K V L i f=some (cellI T S H i f)∧sr04_Cell.f T S C H K V L i f=some (cellI T S H i f)∧0≤cellI T S H i f∧cellI T S H i f<(l.length:Int):=by
 have hf:isF C H i f=true:=isF_iff.2 ⟨h0,h1,h2,h3⟩
 have hc:=cells hw.r h0 h1 h2 h3
 refine ⟨?_,?_,hc.1,by rw [hw.len]; exact hc.2.1⟩
 ·rw [plan_Cell_is,r7_iff.2 hw.r,hf]; rfl
 ·rw [ref04_Cell_is,r7_iff.2 hw.r,hf]; rfl
theorem Wd.rdu (hw:Wd T S C H K V L l) (j:Int):0≤rd l j∧rd l j<18446744073709551616:=rd_u64 hw.u j
theorem Wd.r22at (hw:Wd T S C H K V L l) {i f:Int} (h0:0≤i) (h1:i≤C) (h2:0≤f) (h3:f<6+H):sr22_at.f T S C H K V L l i f=some (rd l (cellI T S H i f)):=by
 obtain ⟨_,e,c0,c1⟩:=hw.cell h0 h1 h2 h3
 unfold sr22_at.f
 rw [e]
 simp only [Option.bind_some]
 rw [if_pos c0,if_pos c1]
theorem Wd.r22with (hw:Wd T S C H K V L l) {i f:Int} (h0:0≤i) (h1:i≤C) (h2:0≤f) (h3:f<6+H) (v:Int):sr22_with.f T S C H K V L l i f v=some (l.set (Int.toNat (cellI T S H i f)) v):=by
 obtain ⟨_,e,c0,c1⟩:=hw.cell h0 h1 h2 h3
 have hL:=lens hw.r
 have hlen:=hw.len
 have hN:lenI T S C H=1+T * S+(C+1) * (6+H):=rfl
 unfold sr22_with.f
 rw [if_pos (by rw [List.length_nil]; omega),e]
 simp only [Option.bind_some,List.nil_append]
 rw [if_pos c0,if_pos c1]
def frF (T S H L i:Int) (l:List Int):List Int:=l.set (Int.toNat (cellI T S H i 0)) (af (gn (rd l (cellI T S H i 0))) L)
theorem af_range {g L:Int} (h0:0≤g) (h1:g<1073741824) (l0:0≤L) (l1:L≤1073741823):0≤af g L∧af g L<18446744073709551616:=by
 unfold af
 split <;> omega
theorem Wd.frees (hw:Wd T S C H K V L l) {i:Int} (h0:0≤i) (h1:i≤C) {n:Nat} (hn:l.length=n):pw_frees.f T S C H K V L n l i=some (frF T S H L i l)∧sr22_frees.f T S C H K V L l i=some (frF T S H L i l)∧Wd T S C H K V L (frF T S H L i l):=by
 have hH:=hw.r.h
 have hLL:=hw.r.l
 obtain ⟨e1,e2,c0,c1⟩:=hw.cell h0 h1 (Int.le_refl 0) (show (0:Int)<6+H by omega)
 have hu:=hw.rdu (cellI T S H i 0)
 have hg:=gn_range hu.1
 have ha:=af_range hg.1 hg.2 hLL.1 hLL.2
 refine ⟨?_,?_,hw.set ha⟩
 ·unfold pw_frees.f frF
  rw [e1]
  simp only [Option.bind_some]
  rw [if_pos c0,if_pos (by rw [← hn]; exact c1),sgen_is hu.1 hu.2]
  simp only [Option.bind_some]
  rw [after_is hg.1 hg.2 hLL.1 hLL.2]
  rfl
 ·unfold sr22_frees.f frF
  rw [hw.r22at h0 h1 (Int.le_refl 0) (by omega)]
  simp only [Option.bind_some]
  rw [rgen_is hu.1 hu.2]
  simp only [Option.bind_some]
  rw [rafter_is hg.1 hg.2 hLL.1 hLL.2]
  simp only [Option.bind_some]
  rw [hw.r22with h0 h1 (Int.le_refl 0) (by omega)]
  rfl
def lw (T S H:Int) (l:List Int):Nat→Int→Int
 | 0,_=>0
 | n+1,x=>if rd l (cellI T S H x 0) % 4=0 then x else lw T S H l n (x+1)
theorem lw_succ (T S H:Int) (l:List Int) (n:Nat) (x:Int):lw T S H l (n+1) x=if rd l (cellI T S H x 0) % 4=0 then x else lw T S H l n (x+1):=rfl
theorem lw_range (T S H:Int) (l:List Int):∀ (n:Nat) (x:Int),1≤x→lw T S H l n x=0∨(x≤lw T S H l n x∧lw T S H l n x<x+n)
 | 0,x,_ => .inl rfl
 | n+1,x,hx=>by
  unfold lw
  split
  ·exact .inr ⟨Int.le_refl x,by omega⟩
  ·rcases lw_range T S H l n (x+1) (by omega) with h | h
   ·exact .inl h
   ·exact .inr ⟨by omega,by omega⟩
theorem Wd.lowest_l0 (hw:Wd T S C H K V L l) {b:Int} (hb:b≤C+1) {nn:Nat} (hn:l.length=nn):∀ (m k:Nat) (x:Int),1≤x→(b - x).toNat=m→m<k→pw_lowest.l0 k T S C H K V L nn l b x=some (lw T S H l m x,l)
 | m,0,x,_,_,h=>absurd h (by omega)
 | 0,k+1,x,hx,hm,hk=>by rw [pw_lowest.l0,if_neg (by omega)]; rfl
 | m+1,k+1,x,hx,hm,hk=>by
  have hH:=hw.r.h
  have hC:=hw.r.c
  obtain ⟨e1,e2,c0,c1⟩:=hw.cell (i:=x) (f:=0) (by omega) (by omega) (by omega) (by omega)
  have hu:=hw.rdu (cellI T S H x 0)
  rw [pw_lowest.l0,if_pos (by omega),if_pos (show x > 0 by omega),e1]
  simp only [Option.bind_some]
  rw [if_pos c0,if_pos (by rw [← hn]; exact c1),state_is hu.1 hu.2,wi64 (n:=x+1) (by omega) (by omega),hw.lowest_l0 hb hn m k (x+1) (by omega) (by omega) (by omega)]
  simp only [Option.bind_some]
  rw [lw_succ]
  by_cases q:rd l (cellI T S H x 0) % 4=0
  ·rw [if_pos q,q]; rfl
  ·rw [if_neg q,show (rd l (cellI T S H x 0) % 4 == 0)=false from beq_eq_false_iff_ne.2 q]
   rw [if_neg (by decide)]
theorem Wd.lowest (hw:Wd T S C H K V L l) {b:Int} (hb0:1≤b) (hb:b≤C+1) {nn:Nat} (hn:l.length=nn) {k:Nat} (hk:100≤k):pw_lowest.f k T S C H K V L nn l b=some (lw T S H l (b - 1).toNat 1,l):=by
 have hC:=hw.r.c
 obtain ⟨k,rfl⟩:∃ z,k=z+1:=⟨k - 1,by omega⟩
 unfold pw_lowest.f
 rw [pw_lowest.l0,if_pos (by omega),if_neg (by decide)]
 exact hw.lowest_l0 hb hn (b - 1).toNat k 1 (Int.le_refl _) rfl (by omega)
theorem Wd.rlowest_l0 (hw:Wd T S C H K V L l) {b:Int} (hb:b≤C+1):∀ (m k:Nat) (x:Int),1≤x→(b - x).toNat=m→m<k→sr22_lowest.l0 k T S C H K V L l b x=some (lw T S H l m x)
 | m,0,x,_,_,h=>absurd h (by omega)
 | 0,k+1,x,hx,hm,hk=>by rw [sr22_lowest.l0,if_neg (by omega)]; rfl
 | m+1,k+1,x,hx,hm,hk=>by
  have hH:=hw.r.h
  have hC:=hw.r.c
  have hu:=hw.rdu (cellI T S H x 0)
  rw [sr22_lowest.l0,if_pos (by omega),hw.r22at (by omega) (by omega) (by omega) (by omega)]
  simp only [Option.bind_some]
  rw [ref_state hu.1,wi64 (n:=x+1) (by omega) (by omega),hw.rlowest_l0 hb m k (x+1) (by omega) (by omega) (by omega)]
  simp only [Option.bind_some]
  rw [lw_succ]
  by_cases q:rd l (cellI T S H x 0) % 4=0
  ·rw [if_pos q,if_pos q]
  ·rw [if_neg q,if_neg q]
theorem Wd.rlowest (hw:Wd T S C H K V L l) {b:Int} (hb:b≤C+1) {k:Nat} (hk:100≤k):sr22_lowest.f k T S C H K V L l b=some (lw T S H l (b - 1).toNat 1):=by
 have hC:=hw.r.c
 exact hw.rlowest_l0 hb (b - 1).toNat k 1 (Int.le_refl _) rfl (by omega)
end
end Go.Eng
namespace Go.Eng
open Go.Proofs Go.RowKit Go.Proofs.YtgbcnokeaaabfaaGreatW.PrintWords
set_option linter.unusedVariables false
set_option linter.unusedSimpArgs false
section
variable {T S C H K V L:Int} {l:List Int}
def cpy (T S H a b:Int):Nat→Int→List Int→List Int
 | 0,_,xs=>xs
 | n+1,x,xs=>cpy T S H a b n (x+1) (xs.set (Int.toNat (cellI T S H b x)) (rd xs (cellI T S H a x)))
theorem rd_set2 (hw:Wd T S C H K V L l) {i f a b v:Int} (h0:0≤i) (h1:i≤C) (h2:0≤f) (h3:f<6+H) (g0:0≤a) (g1:a≤C) (g2:0≤b) (g3:b<6+H):rd (l.set (Int.toNat (cellI T S H i f)) v) (cellI T S H a b)=if i=a∧f=b then v else rd l (cellI T S H a b):=by
 obtain ⟨_,_,c0,c1⟩:=hw.cell h0 h1 h2 h3
 obtain ⟨_,_,d0,d1⟩:=hw.cell g0 g1 g2 g3
 rw [rd_set (by omega)]
 by_cases e:i=a∧f=b
 ·rw [if_pos e,if_pos (by rw [e.1,e.2])]
 ·rw [if_neg e,if_neg (fun e2=>e (cell_inj (isF_iff.2 ⟨h0,h1,h2,h3⟩) (isF_iff.2 ⟨g0,g1,g2,g3⟩) (show cellI T S H i f=cellI T S H a b by omega)))]
theorem cpy_ok {a b:Int} (ha0:0≤a) (ha:a≤C) (hb0:0≤b) (hb:b≤C) (hab:b≠a):∀ (m:Nat) (x:Int) {xs:List Int},Wd T S C H K V L xs→1≤x→x+m≤6+H→Wd T S C H K V L (cpy T S H a b m x xs)∧(cpy T S H a b m x xs).length=xs.length∧∀ i,0≤i→i≤C→rd (cpy T S H a b m x xs) (cellI T S H i 0)=rd xs (cellI T S H i 0)
 | 0,x,xs,hw,_,_=>⟨hw,rfl,fun _ _ _=>rfl⟩
 | m+1,x,xs,hw,hx,hm=>by
  have h1:=hw.set (i:=b) (f:=x) (hw.rdu (cellI T S H a x))
  obtain ⟨q1,q2,q3⟩:=cpy_ok ha0 ha hb0 hb hab m (x+1) h1 (by omega) (by omega)
  refine ⟨q1,by have q:=q2; rw [List.length_set] at q; exact q,fun i hi0 hi=>?_⟩
  have:=q3 i hi0 hi
  rw [rd_set2 hw hb0 hb (by omega) (by omega) hi0 hi (Int.le_refl 0) (by omega),if_neg (by omega)] at this
  exact this
def mvF (T S H L a b:Int) (l:List Int):List Int:=frF T S H L a ((cpy T S H a b (5+H).toNat 1 l).set (Int.toNat (cellI T S H b 0)) (4 * gn (rd l (cellI T S H b 0))+1))
def oldF (T S H a:Int) (l:List Int):Int:=hdl a (gn (rd l (cellI T S H a 0)))
theorem Wd.moves_l0 (a b u v:Int) (ha0:0≤a) (ha:a≤C) (hb0:0≤b) (hb:b≤C) (hab:b≠a) {nn:Nat} {g:Int} (hg0:0≤g) (hg1:g<1073741824):∀ (m k:Nat) (x:Int) {xs:List Int},Wd T S C H K V L xs→xs.length=nn→gn (rd xs (cellI T S H b 0))=g→1≤x→x+m=6+H→m<k→pw_moves.l0 k T S C H K V L nn a b u v x xs=some (u,v,frF T S H L a ((cpy T S H a b m x xs).set (Int.toNat (cellI T S H b 0)) (4 * g+1)))
 | m,0,x,xs,_,_,_,_,_,h=>absurd h (by omega)
 | 0,k+1,x,xs,hw,hn,hgn,hx,hm,hk=>by
  have hH:=hw.r.h
  obtain ⟨e1,_,c0,c1⟩:=hw.cell (f:=0) hb0 hb (by omega) (by omega)
  have hu:=hw.rdu (cellI T S H b 0)
  rw [pw_moves.l0,if_neg (by rw [wi64 (n:=6+H) (by omega) (by omega)]; omega),e1]
  simp only [Option.bind_some]
  rw [if_pos c0,if_pos (by rw [← hn]; exact c1),sgen_is hu.1 hu.2,hgn]
  simp only [Option.bind_some]
  rw [meta_is hg0 hg1]
  simp only [Option.bind_some]
  have h2:=hw.set (i:=b) (f:=0) (v:=4 * g+1) (by omega)
  rw [if_pos c0,if_pos (by rw [← hn]; exact c1),(h2.frees ha0 ha (n:=nn) (by rw [List.length_set]; exact hn)).1]
  rfl
 | m+1,k+1,x,xs,hw,hn,hgn,hx,hm,hk=>by
  have hH:=hw.r.h
  obtain ⟨e1,_,c0,c1⟩:=hw.cell (f:=x) hb0 hb (by omega) (by omega)
  obtain ⟨e2,_,d0,d1⟩:=hw.cell (f:=x) ha0 ha (by omega) (by omega)
  have h1:=hw.set (i:=b) (f:=x) (hw.rdu (cellI T S H a x))
  rw [pw_moves.l0,if_pos (by rw [wi64 (n:=6+H) (by omega) (by omega)]; omega),e1,e2,wi64 (n:=x+1) (by omega) (by omega)]
  simp only [Option.bind_some]
  rw [if_pos d0,if_pos (by rw [← hn]; exact d1),if_pos c0,if_pos (by rw [← hn]; exact c1)]
  exact Wd.moves_l0 a b u v ha0 ha hb0 hb hab hg0 hg1 m k (x+1) h1 (by rw [List.length_set]; exact hn) (by rw [rd_set2 hw hb0 hb (by omega) (by omega) hb0 hb (Int.le_refl 0) (by omega),if_neg (by omega)]; exact hgn) (by omega) (by omega) (by omega)
theorem set_swap (hw:Wd T S C H K V L l) {i f a b v u:Int} (h0:0≤i) (h1:i≤C) (h2:0≤f) (h3:f<6+H) (g0:0≤a) (g1:a≤C) (g2:0≤b) (g3:b<6+H) (hne:¬ (i=a∧f=b)) (xs:List Int):(xs.set (Int.toNat (cellI T S H i f)) v).set (Int.toNat (cellI T S H a b)) u=(xs.set (Int.toNat (cellI T S H a b)) u).set (Int.toNat (cellI T S H i f)) v:=by
 obtain ⟨_,_,c0,c1⟩:=hw.cell h0 h1 h2 h3
 obtain ⟨_,_,d0,d1⟩:=hw.cell g0 g1 g2 g3
 exact List.set_comm _ _ (fun e=>hne (cell_inj (isF_iff.2 ⟨h0,h1,h2,h3⟩) (isF_iff.2 ⟨g0,g1,g2,g3⟩) (show cellI T S H i f=cellI T S H a b by omega)))
theorem Wd.rmoves_l0 (hwl:Wd T S C H K V L l) (a b u v:Int) (ha0:0≤a) (ha:a≤C) (hb0:0≤b) (hb:b≤C) (hab:b≠a) {z:Int} (hz:0≤z∧z<18446744073709551616):∀ (m k:Nat) (x:Int) {xs:List Int},Wd T S C H K V L xs→(∀ f,0≤f→f<6+H→rd xs (cellI T S H a f)=rd l (cellI T S H a f))→1≤x→x+m=6+H→m<k→sr22_moves.l0 k T S C H K V L l a b u v x (xs.set (Int.toNat (cellI T S H b 0)) z)=some (frF T S H L a ((cpy T S H a b m x xs).set (Int.toNat (cellI T S H b 0)) z),u,v)
 | m,0,x,xs,_,_,_,_,h=>absurd h (by omega)
 | 0,k+1,x,xs,hw,hrd,hx,hm,hk=>by
  have hH:=hw.r.h
  have h2:=hw.set (i:=b) (f:=0) (v:=z) hz
  rw [sr22_moves.l0,if_neg (by rw [wi64 (n:=6+H) (by omega) (by omega)]; omega),(h2.frees ha0 ha rfl).2.1]
  rfl
 | m+1,k+1,x,xs,hw,hrd,hx,hm,hk=>by
  have hH:=hw.r.h
  have h2:=hw.set (i:=b) (f:=0) (v:=z) hz
  have h1:=hw.set (i:=b) (f:=x) (hw.rdu (cellI T S H a x))
  rw [sr22_moves.l0,if_pos (by rw [wi64 (n:=6+H) (by omega) (by omega)]; omega),hwl.r22at ha0 ha (by omega) (by omega),wi64 (n:=x+1) (by omega) (by omega)]
  simp only [Option.bind_some]
  rw [h2.r22with hb0 hb (by omega) (by omega)]
  simp only [Option.bind_some]
  rw [set_swap hw hb0 hb (by omega) (by omega) hb0 hb (by omega) (by omega) (by omega) xs,← hrd x (by omega) (by omega)]
  exact hwl.rmoves_l0 a b u v ha0 ha hb0 hb hab hz m k (x+1) h1 (fun f hf0 hf1=>by rw [rd_set2 hw hb0 hb (by omega) (by omega) ha0 ha hf0 hf1,if_neg (by omega)]; exact hrd f hf0 hf1) (by omega) (by omega) (by omega)
theorem Wd.moves (hw:Wd T S C H K V L l) {a b:Int} (ha0:1≤a) (ha:a≤C) (hb0:1≤b) (hb:b≤C) (hab:b≠a) {nn:Nat} (hn:l.length=nn) {k:Nat} (hk:100≤k) :
  pw_moves.f k T S C H K V L nn l a b=some (oldF T S H a l,oldF T S H b l,mvF T S H L a b l)∧sr22_moves.f k T S C H K V L l a b=some (mvF T S H L a b l,oldF T S H a l,oldF T S H b l)∧Wd T S C H K V L (mvF T S H L a b l)∧(mvF T S H L a b l).length=l.length:=by
 have hH:=hw.r.h
 have hC:=hw.r.c
 obtain ⟨e1,_,c0,c1⟩:=hw.cell (i:=a) (f:=0) (by omega) ha (by omega) (by omega)
 obtain ⟨e2,_,d0,d1⟩:=hw.cell (i:=b) (f:=0) (by omega) hb (by omega) (by omega)
 have hu:=hw.rdu (cellI T S H a 0)
 have hv:=hw.rdu (cellI T S H b 0)
 have ga:=gn_range hu.1
 have gb:=gn_range hv.1
 have hcp:=cpy_ok (xs:=l) (by omega) ha (by omega) hb hab (5+H).toNat 1 hw (Int.le_refl 1) (by omega)
 have h2:=hcp.1.set (i:=b) (f:=0) (v:=4 * gn (rd l (cellI T S H b 0))+1) (by omega)
 have h3:=h2.frees (i:=a) (by omega) ha rfl
 refine ⟨?_,?_,h3.2.2,?_⟩
 ·unfold pw_moves.f handle_Pack0.f
  rw [e1,e2]
  simp only [Option.bind_some]
  rw [if_pos c0,if_pos (by rw [← hn]; exact c1),sgen_is hu.1 hu.2]
  simp only [Option.bind_some]
  rw [pk0_is (by omega) (by omega) ga.1 ga.2]
  simp only [Option.bind_some]
  rw [if_pos d0,if_pos (by rw [← hn]; exact d1),sgen_is hv.1 hv.2]
  simp only [Option.bind_some]
  rw [pk0_is (by omega) (by omega) gb.1 gb.2]
  simp only [Option.bind_some]
  exact Wd.moves_l0 a b _ _ (by omega) ha (by omega) hb hab gb.1 gb.2 (5+H).toNat k 1 hw hn rfl (Int.le_refl 1) (by omega) (by omega)
 ·unfold sr22_moves.f
  rw [hw.r22at (i:=a) (f:=0) (by omega) ha (by omega) (by omega),hw.r22at (i:=b) (f:=0) (by omega) hb (by omega) (by omega)]
  simp only [Option.bind_some]
  rw [rgen_is hu.1 hu.2,rgen_is hv.1 hv.2]
  simp only [Option.bind_some]
  rw [of_hdl (by omega) (by omega) ga.1 ga.2]
  simp only [Option.bind_some]
  rw [of_hdl (by omega) (by omega) gb.1 gb.2]
  simp only [Option.bind_some]
  rw [ref_taken gb.1 gb.2]
  simp only [Option.bind_some]
  rw [hw.r22with (by omega) hb (by omega) (by omega)]
  simp only [Option.bind_some]
  exact hw.rmoves_l0 a b _ _ (by omega) ha (by omega) hb hab (by omega) (5+H).toNat k 1 hw (fun _ _ _=>rfl) (Int.le_refl 1) (by omega) (by omega)
 ·unfold mvF frF
  rw [List.length_set,List.length_set]
  exact hcp.2.1
theorem mput_new:∀ (m:List (Int × Int)) (k v:Int),(∀ p∈m,p.1≠k)→mput m k v=m ++ [(k,v)]
 | [],k,v,_=>rfl
 | p :: r,k,v,h=>by
  unfold mput
  rw [if_neg (fun e=>h p List.mem_cons_self e.symm),mput_new r k v (fun q hq=>h q (List.mem_cons_of_mem _ hq))]
  rfl
def s79 (p:Int × Int):S79:=⟨p.1,p.2⟩
theorem mget_cons (p:Int × Int) (r:List (Int × Int)) (k:Int):mget (p :: r) k=if k=p.1 then some p.2 else mget r k:=rfl
theorem becomes_l0 {m:List (Int × Int)} (hb:m.length≤1000) (w:Int):∀ (rest:List (Int × Int)) (k i:Nat),m.drop i=rest→rest.length<k→sr22_becomes.l0 k (m.map s79) w (i:Int)=some ((mget rest w).getD w)
 | rest,0,i,_,h=>absurd h (by omega)
 | [],k+1,i,hd,_=>by
  have h1:m.length≤i:=List.drop_eq_nil_iff.1 hd
  rw [sr22_becomes.l0,if_neg (by rw [List.length_map]; omega)]
  rfl
 | r :: rest,k+1,i,hd,hk=>by
  obtain ⟨h1,h2,h3⟩:=drop_cons' hd
  have e1:rd_T79 (m.map s79) (i:Int)=s79 r:=by unfold rd_T79; rw [Int.toNat_natCast,List.getD_eq_getElem?_getD,List.getElem?_map,h2]; rfl
  have e2:IntKind.wrap .i64 ((i:Int)+1)=((i+1:Nat):Int):=by rw [wi64 (by omega) (by omega)]; rfl
  rw [List.length_cons] at hk
  rw [sr22_becomes.l0,if_pos (by rw [List.length_map]; omega),if_pos (by omega),e1,e2,becomes_l0 hb w rest k (i+1) h3 (by omega)]
  rw [mget_cons]
  by_cases q:r.1=w
  ·rw [if_pos q.symm,if_pos (show (s79 r).1=w from q)]; rfl
  ·rw [if_neg (show ¬ w=r.1 from fun e=>q e.symm),if_neg (show ¬ (s79 r).f0=w from q)]
theorem becomes_is {m:List (Int × Int)} (hb:m.length≤100) (w:Int) {k:Nat} (hk:200≤k):sr22_becomes.f k (m.map s79) w=some ((mget m w).getD w) :=
 becomes_l0 (by omega) w m k 0 rfl (by omega)
theorem set_rd {xs:List Int} {j:Int} (h0:0≤j) (h1:j<xs.length):xs.set j.toNat (rd xs j)=xs:=by
 unfold rd
 rw [List.getD_eq_getElem?_getD,List.getElem?_eq_getElem (by omega:j.toNat<xs.length)]
 exact List.set_getElem_self _
theorem mget_mem:∀ {m:List (Int × Int)} {w v:Int},mget m w=some v→(w,v)∈m
 | [],w,v,h=>by cases h
 | p :: r,w,v,h=>by
  unfold mget at h
  split at h
  ·rename_i e
   injection h with h
   rw [e,← h]
   exact List.mem_cons_self
  ·exact List.mem_cons_of_mem _ (mget_mem h)
theorem cells_l23 {nn:Nat} {mv:List (Int × Int)} (hmb:mv.length≤100) (hmu:∀ p∈mv,0≤p.2∧p.2<18446744073709551616) (base:List Int) (hbase:base.length=nn):∀ (n:Nat) (x:Int) {xs:List Int},Wd T S C H K V L xs→xs.length=nn→0≤x→(C+1 - x).toNat=n→∃ r,r.length=nn∧∀ k,n * 10+300≤k→pack_Cells.l2 k T S C H K V L base mv x xs=some (r,true)∧sr22_Cells.l2 k T S C H K V L (mv.map s79) x xs=some (r,true):=by
 intro n
 induction n with
 | zero =>
  intro x xs hw hn hx hm
  have hC:=hw.r.c
  refine ⟨xs,hn,fun k hk=>?_⟩
  obtain ⟨k,rfl⟩:∃ z,k=z+1:=⟨k - 1,by omega⟩
  rw [pack_Cells.l2,if_neg (by rw [wi64 (n:=C+1) (by omega) (by omega)]; omega),sr22_Cells.l2,if_neg (by omega)]
  exact ⟨rfl,rfl⟩
 | succ n ih =>
  intro x xs hw hn hx hm
  have hC:=hw.r.c
  have hH:=hw.r.h
  obtain ⟨e1,_,c0,c1⟩:=hw.cell (i:=x) (f:=0) hx (by omega) (by omega) (by omega)
  have hu:=hw.rdu (cellI T S H x 0)
  have inner:∀ (m:Nat) (y:Int) {xs:List Int},Wd T S C H K V L xs→xs.length=nn→0≤y→(H - y).toNat=m→∃ r,r.length=nn∧∀ k,m+n * 10+301≤k→pack_Cells.l3 k T S C H K V L base mv x y xs=some (r,true)∧sr22_Cells.l3 k T S C H K V L (mv.map s79) x y xs=some (r,true):=by
   intro m
   induction m with
   | zero =>
    intro y xs hw hn hy hm'
    obtain ⟨r,hr,h⟩:=ih (x+1) hw hn (by omega) (by omega)
    refine ⟨r,hr,fun k hk=>?_⟩
    obtain ⟨k,rfl⟩:∃ z,k=z+1:=⟨k - 1,by omega⟩
    rw [pack_Cells.l3,if_neg (by omega),sr22_Cells.l3,if_neg (by omega),wi64 (n:=x+1) (by omega) (by omega)]
    exact h k (by omega)
   | succ m ihm =>
    intro y xs hw hn hy hm'
    obtain ⟨e1,_,c0,c1⟩:=hw.cell (i:=x) (f:=6+y) hx (by omega) (by omega) (by omega)
    have hu:=hw.rdu (cellI T S H x (6+y))
    cases hg:mget mv (rd xs (cellI T S H x (6+y))) with
    | none =>
     obtain ⟨r,hr,h⟩:=ihm (y+1) hw hn (by omega) (by omega)
     refine ⟨r,hr,fun k hk=>?_⟩
     obtain ⟨k,rfl⟩:∃ z,k=z+1:=⟨k - 1,by omega⟩
     rw [pack_Cells.l3,if_pos (by omega),sr22_Cells.l3,if_pos (by omega),wi64 (n:=6+y) (by omega) (by omega),wi64 (n:=y+1) (by omega) (by omega),e1,hw.r22at hx (by omega) (by omega) (by omega)]
     simp only [Option.bind_some]
     rw [if_pos c0,if_pos (show cellI T S H x (6+y)<(base.length:Int) by omega),becomes_is hmb _ (by omega)]
     simp only [Option.bind_some]
     rw [hw.r22with hx (by omega) (by omega) (by omega)]
     simp only [Option.bind_some]
     rw [hg]
     simp only [Option.isSome_none,Bool.false_eq_true,if_false]
     rw [Option.getD_none,set_rd c0 c1]
     exact h k (by omega)
    | some v =>
     obtain ⟨r,hr,h⟩:=ihm (y+1) (hw.set (i:=x) (f:=6+y) (hmu _ (mget_mem hg))) (by rw [List.length_set]; exact hn) (by omega) (by omega)
     refine ⟨r,hr,fun k hk=>?_⟩
     obtain ⟨k,rfl⟩:∃ z,k=z+1:=⟨k - 1,by omega⟩
     rw [pack_Cells.l3,if_pos (by omega),sr22_Cells.l3,if_pos (by omega),wi64 (n:=6+y) (by omega) (by omega),wi64 (n:=y+1) (by omega) (by omega),e1,hw.r22at hx (by omega) (by omega) (by omega)]
     simp only [Option.bind_some]
     rw [if_pos c0,if_pos (show cellI T S H x (6+y)<(base.length:Int) by omega),becomes_is hmb _ (by omega)]
     simp only [Option.bind_some]
     rw [hw.r22with hx (by omega) (by omega) (by omega)]
     simp only [Option.bind_some]
     rw [hg]
     exact h k (by omega)
  by_cases q:rd xs (cellI T S H x 0) % 4=1
  ·obtain ⟨r,hr,h⟩:=inner H.toNat 0 hw hn (Int.le_refl 0) (by omega)
   refine ⟨r,hr,fun k hk=>?_⟩
   obtain ⟨k,rfl⟩:∃ z,k=z+1:=⟨k - 1,by omega⟩
   rw [pack_Cells.l2,if_pos (by rw [wi64 (n:=C+1) (by omega) (by omega)]; omega),sr22_Cells.l2,if_pos (by omega),e1,hw.r22at hx (by omega) (by omega) (by omega)]
   simp only [Option.bind_some]
   rw [if_pos c0,if_pos (show cellI T S H x 0<(base.length:Int) by omega),state_is hu.1 hu.2,ref_state hu.1]
   simp only [Option.bind_some]
   rw [if_pos q,if_pos q]
   exact h k (by omega)
  ·obtain ⟨r,hr,h⟩:=ih (x+1) hw hn (by omega) (by omega)
   refine ⟨r,hr,fun k hk=>?_⟩
   obtain ⟨k,rfl⟩:∃ z,k=z+1:=⟨k - 1,by omega⟩
   rw [pack_Cells.l2,if_pos (by rw [wi64 (n:=C+1) (by omega) (by omega)]; omega),sr22_Cells.l2,if_pos (by omega),e1,hw.r22at hx (by omega) (by omega) (by omega)]
   simp only [Option.bind_some]
   rw [if_pos c0,if_pos (show cellI T S H x 0<(base.length:Int) by omega),state_is hu.1 hu.2,ref_state hu.1,wi64 (n:=x+1) (by omega) (by omega)]
   simp only [Option.bind_some]
   rw [if_neg q,if_neg q]
   exact h k (by omega)
end
end Go.Eng
namespace Go.Eng
open Go.Proofs Go.RowKit Go.Proofs.YtgbcnokeaaabfaaGreatW.PrintWords
set_option linter.unusedVariables false
set_option linter.unusedSimpArgs false
section
variable {T S C H K V L:Int} {l:List Int}
theorem wrap_succ {i:Nat} (h:i<100000):IntKind.wrap .i64 ((i:Int)+1)=((i+1:Nat):Int):=by rw [wi64 (by omega) (by omega)]; rfl
theorem cells_l1 {nn:Nat} {base:List Int} (hbase:base.length=nn):∀ (m:Nat) (x:Int) {xs:List Int} {mv:List (Int × Int)},Wd T S C H K V L xs→xs.length=nn→1≤x→x+m=C+1→(∀ p∈mv,p.1 % 4294967296<x∧0≤p.2∧p.2<18446744073709551616)→mv.length+m≤70→∃ r,r.length=nn∧∀ k,m+1300≤k→pack_Cells.l1 k T S C H K V L base x mv xs=some (r,true)∧sr22_Cells.l1 k T S C H K V L x (mv.map s79) xs=some (r,true)
 | 0,x,xs,mv,hw,hn,hx,hm,hmv,hb=>by
  have hC:=hw.r.c
  obtain ⟨r,hr,h⟩:=cells_l23 (T:=T) (S:=S) (C:=C) (H:=H) (K:=K) (V:=V) (L:=L) (mv:=mv) (by omega) (fun p hp=>(hmv p hp).2) base hbase (C+1).toNat 0 hw hn (Int.le_refl 0) (by omega)
  refine ⟨r,hr,fun k hk=>?_⟩
  obtain ⟨k,rfl⟩:∃ z,k=z+1:=⟨k - 1,by omega⟩
  rw [pack_Cells.l1,if_neg (by rw [wi64 (n:=C+1) (by omega) (by omega)]; omega),sr22_Cells.l1,if_neg (by omega)]
  exact h k (by omega)
 | m+1,x,xs,mv,hw,hn,hx,hm,hmv,hb=>by
  have hC:=hw.r.c
  have hH:=hw.r.h
  obtain ⟨e1,_,c0,c1⟩:=hw.cell (i:=x) (f:=0) (by omega) (by omega) (by omega) (by omega)
  have hu:=hw.rdu (cellI T S H x 0)
  have hmv':∀ p∈mv,p.1 % 4294967296<x+1∧0≤p.2∧p.2<18446744073709551616:=fun p hp=>by
   have:=hmv p hp
   exact ⟨by omega,this.2⟩
  by_cases q:rd xs (cellI T S H x 0) % 4=1
  ·rcases lw_range T S H xs (x - 1).toNat 1 (Int.le_refl 1) with h0 | h0
   ·obtain ⟨r,hr,h⟩:=cells_l1 hbase m (x+1) (mv:=mv) hw hn (by omega) (by omega) hmv' (by omega)
    refine ⟨r,hr,fun k hk=>?_⟩
    obtain ⟨k,rfl⟩:∃ z,k=z+1:=⟨k - 1,by omega⟩
    rw [pack_Cells.l1,if_pos (by rw [wi64 (n:=C+1) (by omega) (by omega)]; omega),if_neg (show ¬ x=0 by omega),e1,sr22_Cells.l1,if_pos (by omega),hw.rlowest (b:=x) (by omega) (by omega),hw.r22at (by omega) (by omega) (by omega) (by omega),wi64 (n:=x+1) (by omega) (by omega)]
    simp only [Option.bind_some]
    rw [if_pos c0,if_pos (show cellI T S H x 0<(base.length:Int) by omega),state_is hu.1 hu.2,ref_state hu.1]
    simp only [Option.bind_some]
    rw [q,if_pos rfl]
    simp only [Option.bind_some]
    rw [show ((1:Int) != 1)=false from rfl,if_neg (by decide),hw.lowest hx (by omega) (show xs.length=base.length by omega) (by omega)]
    simp only [Option.bind_some]
    rw [h0,if_neg (by decide),if_neg (by decide)]
    exact h k (by omega)
   ·have hmo:=fun (k:Nat) (hk:100≤k)=>hw.moves (a:=x) (b:=lw T S H xs (x - 1).toNat 1) hx (by omega) h0.1 (by omega) (by omega) (show xs.length=base.length by omega) (k:=k) hk
    have h1:=(hmo 100 (Nat.le_refl _)).2.2
    have hg:=gn_range hu.1
    have hg2:=gn_range (hw.rdu (cellI T S H (lw T S H xs (x - 1).toNat 1) 0)).1
    have ho:oldF T S H x xs % 4294967296=x:=by unfold oldF hdl; omega
    obtain ⟨r,hr,h⟩:=cells_l1 hbase m (x+1) (mv:=mv ++ [(oldF T S H x xs,oldF T S H (lw T S H xs (x - 1).toNat 1) xs)]) h1.1 (by rw [h1.2]; exact hn) (by omega) (by omega) (fun p hp=>by
     rcases List.mem_append.1 hp with hp | hp
     ·exact hmv' p hp
     ·rw [List.mem_singleton.1 hp]
      refine ⟨?_,?_⟩
      ·show oldF T S H x xs % 4294967296<x+1
       omega
      ·show 0≤oldF T S H (lw T S H xs (x - 1).toNat 1) xs∧oldF T S H (lw T S H xs (x - 1).toNat 1) xs<18446744073709551616
       unfold oldF hdl
       omega) (by rw [List.length_append,List.length_singleton]; omega)
    refine ⟨r,hr,fun k hk=>?_⟩
    obtain ⟨k,rfl⟩:∃ z,k=z+1:=⟨k - 1,by omega⟩
    rw [pack_Cells.l1,if_pos (by rw [wi64 (n:=C+1) (by omega) (by omega)]; omega),if_neg (show ¬ x=0 by omega),e1,sr22_Cells.l1,if_pos (by omega),hw.rlowest (b:=x) (by omega) (by omega),hw.r22at (by omega) (by omega) (by omega) (by omega),wi64 (n:=x+1) (by omega) (by omega)]
    simp only [Option.bind_some]
    rw [if_pos c0,if_pos (show cellI T S H x 0<(base.length:Int) by omega),state_is hu.1 hu.2,ref_state hu.1]
    simp only [Option.bind_some]
    rw [q,if_pos rfl]
    simp only [Option.bind_some]
    rw [show ((1:Int) != 1)=false from rfl,if_neg (by decide),hw.lowest hx (by omega) (show xs.length=base.length by omega) (by omega)]
    simp only [Option.bind_some]
    rw [if_pos (show lw T S H xs (x - 1).toNat 1 > 0 by omega),if_pos (show decide (lw T S H xs (x - 1).toNat 1 > 0)=true from decide_eq_true (by omega)),(hmo k (by omega)).1,(hmo k (by omega)).2.1]
    simp only [Option.bind_some]
    rw [if_pos (by rw [List.length_map]; omega),mput_new mv _ _ (fun p hp e=>by have:=(hmv p hp).1; rw [e,ho] at this; omega)]
    have hh:=h k (by omega)
    rw [List.map_append] at hh
    exact hh
  ·obtain ⟨r,hr,h⟩:=cells_l1 hbase m (x+1) (mv:=mv) hw hn (by omega) (by omega) hmv' (by omega)
   refine ⟨r,hr,fun k hk=>?_⟩
   obtain ⟨k,rfl⟩:∃ z,k=z+1:=⟨k - 1,by omega⟩
   rw [pack_Cells.l1,if_pos (by rw [wi64 (n:=C+1) (by omega) (by omega)]; omega),if_neg (show ¬ x=0 by omega),e1,sr22_Cells.l1,if_pos (by omega),hw.rlowest (b:=x) (by omega) (by omega),hw.r22at (by omega) (by omega) (by omega) (by omega),wi64 (n:=x+1) (by omega) (by omega)]
   simp only [Option.bind_some]
   rw [if_pos c0,if_pos (show cellI T S H x 0<(base.length:Int) by omega),state_is hu.1 hu.2,ref_state hu.1]
   simp only [Option.bind_some]
   rw [if_neg q,show (rd xs (cellI T S H x 0) % 4 != 1)=true from bne_iff_ne.2 q]
   simp only [Option.bind_some]
   rw [if_pos trivial,if_neg (by decide)]
   exact h k (by omega)
theorem cells_l0 {nn:Nat} {base:List Int} (hbase:base.length=nn) {es:List S53} {e2:List S47} (h12:es.map (·.f0)=e2.map (·.f0)) (hb:es.length≤100) (hes:∀ e∈es,0≤e.f0∧1≤e.f0 % 4294967296∧e.f0 % 4294967296≤C):∀ (rest:List S53) (i:Nat) {xs:List Int},Wd T S C H K V L xs→xs.length=nn→es.drop i=rest→∃ r,r.length=nn∧∀ k,rest.length+1500≤k→pack_Cells.l0 k T S C H K V L base es (i:Int) xs=some (r,true)∧sr22_Cells.l0 k T S C H K V L e2 (i:Int) xs=some (r,true)
 | [],i,xs,hw,hn,hd=>by
  have h1:es.length≤i:=List.drop_eq_nil_iff.1 hd
  have hl:es.length=e2.length:=by have:=congrArg List.length h12; rwa [List.length_map,List.length_map] at this
  have hC:=hw.r.c
  obtain ⟨r,hr,h⟩:=cells_l1 (T:=T) (S:=S) (C:=C) (H:=H) (K:=K) (V:=V) (L:=L) hbase C.toNat 1 (mv:=[]) hw hn (Int.le_refl 1) (by omega) (fun p hp=>absurd hp List.not_mem_nil) (by rw [List.length_nil]; omega)
  refine ⟨r,hr,fun k hk=>?_⟩
  rw [List.length_nil] at hk
  obtain ⟨k,rfl⟩:∃ z,k=z+1+1:=⟨k - 2,by omega⟩
  rw [pack_Cells.l0,if_neg (by omega),sr22_Cells.l0,if_neg (by omega),pack_Cells.l1,if_pos (by rw [wi64 (n:=C+1) (by omega) (by omega)]; omega),if_pos rfl]
  simp only [Option.bind_some]
  rw [if_pos trivial,wi64 (n:=(0:Int)+1) (by decide) (by decide)]
  exact ⟨(h k (by omega)).1,(h (k+1) (by omega)).2⟩
 | e :: rest,i,xs,hw,hn,hd=>by
  obtain ⟨h1,h2,h3⟩:=drop_cons' hd
  have hl:es.length=e2.length:=by have:=congrArg List.length h12; rwa [List.length_map,List.length_map] at this
  have he:=hes e (List.mem_of_getElem? h2)
  have r1:rd_T53 es (i:Int)=e:=by unfold rd_T53; rw [Int.toNat_natCast,List.getD_eq_getElem?_getD,h2]; rfl
  have r2:(rd_T47 e2 (i:Int)).f0=e.f0:=by
   have h4:(e2.map (·.f0))[i]?=some e.f0:=by rw [← h12,List.getElem?_map,h2]; rfl
   rw [List.getElem?_map] at h4
   unfold rd_T47
   rw [Int.toNat_natCast,List.getD_eq_getElem?_getD]
   cases h5:e2[i]? with
   | none=>rw [h5] at h4; cases h4
   | some z=>rw [h5] at h4; injection h4
  have hf:=hw.frees (i:=e.f0 % 4294967296) (by omega) (by omega) (show xs.length=base.length by omega)
  obtain ⟨r,hr,h⟩:=cells_l0 hbase h12 hb hes rest (i+1) hf.2.2 (by unfold frF; rw [List.length_set]; exact hn) h3
  refine ⟨r,hr,fun k hk=>?_⟩
  rw [List.length_cons] at hk
  obtain ⟨k,rfl⟩:∃ z,k=z+1:=⟨k - 1,by omega⟩
  rw [pack_Cells.l0,if_pos (by omega),if_pos (by omega),r1,hf.1,sr22_Cells.l0,if_pos (by omega),if_pos (by omega),r2,ref_index (by omega),wrap_succ (by omega)]
  simp only [Option.bind_some]
  rw [hf.2.1]
  simp only [Option.bind_some]
  exact h k (by omega)
theorem Cells_is (hu:∀ x∈l,0≤x∧x<18446744073709551616) (hl:l.length≤400) {ll:List (List S53)} {e2:List S47} (h1:ll.length≤100) (h2:ll.flatten.length≤100) (h12:ll.flatten.map (·.f0)=e2.map (·.f0)) (hue:∀ e∈e2,0≤e.f0∧e.f0<18446744073709551616):∃ r b,r.length≤400∧pack_Cells.f 3000 T S C H K V L l ll=some (r,b)∧sr22_Cells.f 3000 T S C H K V L l e2=some (r,b)∧(b=true→Wd T S C H K V L l∧RestB T S C H K V L l (e2.map (·.f0))=true):=by
 by_cases hW:R7 T S C H K V L∧(l.length:Int)=lenI T S C H
 ·have hw:Wd T S C H K V L l:=⟨hW.1,hW.2,hu⟩
  have hC:=hw.r.c
  have hle:ll.flatten.length=e2.length:=by have:=congrArg List.length h12; rwa [List.length_map,List.length_map] at this
  have hue2:∀ e∈ll.flatten,0≤e.f0∧e.f0<18446744073709551616:=fun e he=>by
   have hm:e.f0∈e2.map (·.f0):=by rw [← h12]; exact List.mem_map.2 ⟨e,he,rfl⟩
   obtain ⟨z,hz,ez⟩:=List.mem_map.1 hm
   have:=hue z hz
   rw [ez] at this
   exact this
  unfold pack_Cells.f sr22_Cells.f
  rw [hw.Rest hl h1 h2 hue2,hw.rRest (by omega) hue,h12]
  simp only [Option.bind_some]
  cases hR:RestB T S C H K V L l (e2.map (·.f0)) with
  | false=>exact ⟨[],false,by simp,rfl,rfl,fun h=>Bool.noConfusion h⟩
  | true =>
   have hes:∀ e∈ll.flatten,0≤e.f0∧1≤e.f0 % 4294967296∧e.f0 % 4294967296≤C:=fun e he=>by
    have hm:e.f0∈lvs T S C H K V L l 0 ++ e2.map (·.f0):=List.mem_append.2 (.inr (by rw [← h12]; exact List.mem_map.2 ⟨e,he,rfl⟩))
    have hb:=hue2 e he
    unfold RestB ownB at hR
    simp only [Bool.and_eq_true] at hR
    have hg:=List.all_eq_true.1 hR.2.2.2.1 _ hm
    unfold goodB at hg
    rw [Bool.and_eq_true,nm_is hb.1 hb.2] at hg
    have:=hg.1
    simp only [Bool.and_eq_true,decide_eq_true_eq] at this
    omega
   obtain ⟨r,hr,h⟩:=cells_l0 (T:=T) (S:=S) (C:=C) (H:=H) (K:=K) (V:=V) (L:=L) (base:=l) rfl h12 h2 hes ll.flatten 0 hw rfl rfl
   have hh:=h 3000 (by omega)
   have hL:=lens hw.r
   have hN:lenI T S C H=1+T * S+(C+1) * (6+H):=rfl
   have hlen:=hw.len
   rw [if_pos rfl,if_pos rfl,if_pos (by omega),if_pos (by rw [List.length_nil]; omega),concat_is h1 (by omega) (by decide)]
   simp only [Option.bind_some,List.nil_append]
   rw [if_pos (by omega)]
   exact ⟨r,true,by omega,hh.1,hh.2,fun _=>⟨hw,trivial⟩⟩
 ·refine ⟨[],false,by simp,?_,?_,fun h=>Bool.noConfusion h⟩
  ·unfold pack_Cells.f
   rw [(noRest hW ll []).1]
   rfl
  ·unfold sr22_Cells.f
   rw [(noRest hW [] e2).2]
   rfl
def nw (e:S47):S53:=⟨e.f0,e.f1,e.f2⟩
theorem news_l0 {l2:List S47} (hb:l2.length≤1000):∀ (rest:List S47) (k i:Nat) (xs:List S53),l2.drop i=rest→xs.length+rest.length≤1000→rest.length<k→stepstonelaw06_News.l0 k l2 (i:Int) xs=some (xs ++ rest.map nw)
 | rest,0,i,xs,_,_,h=>absurd h (by omega)
 | [],k+1,i,xs,hd,_,_=>by
  have h1:l2.length≤i:=List.drop_eq_nil_iff.1 hd
  rw [stepstonelaw06_News.l0,if_neg (by omega),List.map_nil,List.append_nil]
 | e :: rest,k+1,i,xs,hd,hx,hk=>by
  obtain ⟨h1,h2,h3⟩:=drop_cons' hd
  have r2:rd_T47 l2 (i:Int)=e:=by unfold rd_T47; rw [Int.toNat_natCast,List.getD_eq_getElem?_getD,h2]; rfl
  rw [List.length_cons] at hx hk
  rw [stepstonelaw06_News.l0,if_pos (by omega),if_pos (by omega),if_pos (by omega),r2,wrap_succ (by omega),news_l0 hb rest k (i+1) _ h3 (by rw [List.length_append,List.length_singleton]; omega) (by omega),List.append_assoc]
  rfl
theorem news_is {l2:List S47} (hb:l2.length≤1000):stepstonelaw06_News.f 3000 l2=some (l2.map nw) :=
 news_l0 hb l2 3000 0 [] rfl (by rw [List.length_nil]; omega) (by omega)
theorem nw_f0 (l2:List S47):(l2.map nw).map (·.f0)=l2.map (·.f0):=by rw [List.map_map]; rfl
theorem packCells_is (hu:∀ x∈l,0≤x∧x<18446744073709551616) {l2:List S47} (hue:∀ e∈l2,0≤e.f0∧e.f0<18446744073709551616) (at_:Int):stepstonelaw22_PackCells.f 3000 T S C H K V L l l2 at_=some true:=by
 unfold stepstonelaw22_PackCells.f
 by_cases q1:C > 20
 ·rw [if_pos q1]; rfl
 rw [if_neg q1]
 by_cases q2:((l.length:Int):Int) > 400
 ·rw [if_pos q2]; rfl
 rw [if_neg q2]
 by_cases q3:((l2.length:Int):Int) > 40
 ·rw [if_pos q3]; rfl
 rw [if_neg q3]
 by_cases q4:at_<0
 ·rw [if_pos q4]; rfl
 rw [if_neg q4]
 by_cases q5:at_ > (l2.length:Int)
 ·rw [decide_eq_true q5]; rfl
 rw [decide_eq_false q5]
 simp only [Option.bind_some,Bool.false_eq_true,if_false]
 rw [if_pos (by rw [List.length_nil]; omega),news_is (by omega)]
 simp only [Option.bind_some]
 rw [if_pos (by omega),if_pos (by rw [List.length_map]; omega),List.nil_append]
 have hf:([(l2.map nw).take at_.toNat,(l2.map nw).drop at_.toNat]:List (List S53)).flatten=l2.map nw:=by
  rw [List.flatten_cons,List.flatten_cons,List.flatten_nil,List.append_nil,List.take_append_drop]
 obtain ⟨r,b,hr,e1,e2,_⟩:=Cells_is (T:=T) (S:=S) (C:=C) (H:=H) (K:=K) (V:=V) (L:=L) hu (by omega) (ll:=[(l2.map nw).take at_.toNat,(l2.map nw).drop at_.toNat]) (e2:=l2) (by simp) (by rw [hf,List.length_map]; omega) (by rw [hf]; exact nw_f0 l2) hue
 rw [e1,e2]
 simp only [Option.bind_some]
 rw [same_is (by omega)]
 simp only [Option.bind_some]
 rw [if_pos trivial,if_pos (by simp),same_is (by omega)]
 rfl
end
theorem u64w {x:Int} (h:(Lit.int .u64 x).wf=true):0≤x∧x<18446744073709551616:=by
 have h1:IntKind.u64.min≤x∧x≤IntKind.u64.max:=by simpa [Lit.wf] using h
 have e:IntKind.u64.min=0:=by decide
 have e2:IntKind.u64.max=18446744073709551615:=by decide
 omega
end Go.Eng
namespace Go.Eng
open Go.Proofs Go.RowKit Go.Proofs.YtgbcnokeaaabfaaGreatW.PrintWords
theorem packCells_con (T S C H K V L:Int) (A1:Option Addr) (c1:Nat) (l:List Int) (A2:Option Addr) (c2:Nat) (l2:List S47) (at_:Int) (hw:l.length≤maxLen∧∀ x∈l,(Lit.int .u64 x).wf=true) (he:∀ e∈l2,(Lit.int .u64 e.f0).wf=true) (w0:World) (Hs:List Nat):Con Tryz.prog 3 #[.agg #[.int .i64 T,.int .i64 S,.int .i64 C,.int .i64 H,.int .i64 K,.int .i64 V,.int .i64 L],.slice A1 l.length c1,.agg #[.slice A2 l2.length c2,.int .i64 at_]] w0 Hs [.f (KC (Kd.int .u64) A1 c1 l),.f (KC k47 A2 c2 l2)] (fun X=>X (.bool true) []) :=
 stepstonelaw22_PackCells_con 3000 T S C H K V L A1 c1 l A2 c2 l2 at_ true (packCells_is (u64_of hw) (fun e h=>u64w (he e h)) at_) w0 Hs
end Go.Eng
