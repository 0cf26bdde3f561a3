/-
Own text, put together by an own program (shake.py) out of this claim's texts: what its theorem needs of them.
-/
import Derived.Test.YtgbcnokeaaabfaaGreatA10
namespace Go.Eng
open Go.Proofs Go.RowKit Go.Proofs.YtgbcnokeaaabfaaGreatW.PrintWords
set_option linter.unusedVariables false
set_option linter.unusedSimpArgs false
section
variable {T S C H K V L:Int} {l es r xs:List Int} {mv:List (Int × Int)}
structure Lf (T S C H K V L:Int) (l:List Int):Prop where
 wd:Wd T S C H K V L l
 one:ce T S H l 0 0=1
 hd:∀ lev,0≤lev→lev<H→ce T S H l 0 (6+lev) / 4611686018427387904 % 2=0
 len:∀ lev,0≤lev→lev<H→((lvs T S C H K V L l lev).length:Int)≤C
 fin:∀ lev,0≤lev→lev<H→endF T S C H K V L l lev<9223372036854775808
 rl:∀ lev,0≤lev→lev<H→rlB T S C H K V L l lev true 0 (lvs T S C H K V L l lev)=true
 low:∀ lev h,0≤lev→lev<H→h∈lvs T S C H K V L l lev→h∈lvs T S C H K V L l 0
 nd:∀ lev h,0≤lev→lev<H→h∈lvs T S C H K V L l lev→ndB T S C H K V L l h lev=true
 tall:∀ lev h,0≤lev→lev<H→h∈lvs T S C H K V L l lev→lev<ce T S H l (ix h) 4∧ce T S H l (ix h) 4≤H
 st:∀ h,h∈lvs T S C H K V L l 0→ce T S H l (ix h) 2 % 2=0∧ce T S H l (ix h) 5=1∧∀ y,0≤y→y<ce T S H l (ix h) 4→ce T S H l (ix h) (6+y) / 4611686018427387904 % 2=0∧h∈lvs T S C H K V L l y
theorem rlB_nd {lev:Int}:∀ (ys:List Int) (f:Bool) (key:Int),rlB T S C H K V L l lev f key ys=true→∀ h∈ys,ndB T S C H K V L l h lev=true
 | [],_,_,_,h,hh=>absurd hh List.not_mem_nil
 | y :: t,f,key,hr,h,hh=>by
  unfold rlB at hr
  simp only [Bool.and_eq_true] at hr
  rcases List.mem_cons.1 hh with rfl | hh
  ·exact hr.2.1
  ·exact rlB_nd t _ _ hr.2.2 h hh
theorem Lf.of (hw:Wd T S C H K V L l) (hR:RestB T S C H K V L l es=true):Lf T S C H K V L l:=by
 have hC:=hw.r.c
 have hH:=hw.r.h
 unfold RestB at hR
 simp only [Bool.and_eq_true] at hR
 obtain ⟨hr,hz,hl,ho⟩:=hR
 have hr0:=hr
 unfold RightB at hr
 rw [Bool.and_eq_true] at hr
 have rg:=fun lev (h0:0≤lev) (h1:lev<H)=>mks_iff.1 hr.2 lev h0 (by omega)
 have lb:=fun lev (h0:0≤lev) (h1:lev<H)=>mks_iff.1 hl lev h0 (by omega)
 have rg2:∀ lev,0≤lev→lev<H→mkB T S C H K V L l 0 lev=false∧((lvs T S C H K V L l lev).length:Int)≤C∧¬ endF T S C H K V L l lev≥9223372036854775808∧rlB T S C H K V L l lev true 0 (lvs T S C H K V L l lev)=true:=fun lev h0 h1=>by
  have:=rg lev h0 h1
  unfold rgB at this
  simp only [Bool.and_eq_true,Bool.not_eq_true',decide_eq_true_eq,decide_eq_false_iff_not] at this
  exact this
 have lb2:∀ lev h,0≤lev→lev<H→h∈lvs T S C H K V L l lev→h∈lvs T S C H K V L l 0∧stB T S C H K V L l h=true:=fun lev h h0 h1 hm=>by
  have:=lb lev h0 h1
  unfold lvB at this
  have:=List.all_eq_true.1 this h hm
  rw [Bool.and_eq_true,List.contains_iff_mem] at this
  exact this
 have nd:∀ lev h,0≤lev→lev<H→h∈lvs T S C H K V L l lev→ndB T S C H K V L l h lev=true:=fun lev h h0 h1 hm=>rlB_nd _ _ _ (rg2 lev h0 h1).2.2.2 h hm
 have tall:∀ lev h,0≤lev→lev<H→h∈lvs T S C H K V L l lev→lev<ce T S H l (ix h) 4∧ce T S H l (ix h) 4≤H:=fun lev h h0 h1 hm=>by
  have h3:=nd lev h h0 h1 hm
  have hb:=hw.mem hm
  unfold ndB at h3
  simp only [Bool.and_eq_true,decide_eq_true_eq] at h3
  rw [hw.atc (by omega) hb.2.2.2 (by omega) (by omega)] at h3
  exact ⟨h3.2.1,h3.2.2.1⟩
 refine ⟨hw,?_,fun lev h0 h1=>?_,fun lev h0 h1=>(rg2 lev h0 h1).2.1,fun lev h0 h1=>Int.not_le.1 (rg2 lev h0 h1).2.2.1,fun lev h0 h1=>(rg2 lev h0 h1).2.2.2,fun lev h h0 h1 hm=>(lb2 lev h h0 h1 hm).1,nd,tall,fun h hm=>?_⟩
 ·have:=beq_iff_eq.1 hr.1
  rw [hw.atc (by omega) (by omega) (by omega) (by omega)] at this
  exact this
 ·have:=(rg2 lev h0 h1).1
  unfold mkB at this
  rw [decide_eq_false_iff_not,hw.atc (by omega) (by omega) (by omega) (by omega)] at this
  omega
 ·have hs:=(lb2 0 h (Int.le_refl 0) (by omega) hm).2
  have hb:=hw.mem hm
  have ht:=tall 0 h (Int.le_refl 0) (by omega) hm
  unfold stB ddB at hs
  rw [hw.atc (f:=2) (by omega) hb.2.2.2 (by omega) (by omega),hw.atc (f:=5) (by omega) hb.2.2.2 (by omega) (by omega),hw.atc (f:=4) (by omega) hb.2.2.2 (by omega) (by omega)] at hs
  simp only [Bool.and_eq_true,Bool.not_eq_true',decide_eq_false_iff_not,beq_iff_eq] at hs
  refine ⟨?_,hs.2.1,fun y y0 y1=>?_⟩
  ·have h1:=hs.1
   show ce T S H l (h % 4294967296) 2 % 2=0
   omega
  ·have h4:=mks_iff.1 hs.2.2 y y0 (by unfold ix at y1; omega)
   unfold stL mkB at h4
   rw [hw.atc (by omega) hb.2.2.2 (by omega) (by omega),Bool.and_eq_true,List.contains_iff_mem] at h4
   simp only [Bool.not_eq_true',decide_eq_false_iff_not] at h4
   refine ⟨?_,h4.2⟩
   have h5:=h4.1
   show ce T S H l (h % 4294967296) (6+y) / 4611686018427387904 % 2=0
   omega
theorem ren_out (F:Fin T S C H K V L l (lvs T S C H K V L l 0) es r xs mv) {v:Int} (h:v ∉ lvs T S C H K V L l 0):ren mv v=v:=ren_none (mget_none fun p hp e=>h (by rw [← e]; exact F.st.key p hp))
theorem new_ce (lf:Lf T S C H K V L l) (F:Fin T S C H K V L l (lvs T S C H K V L l 0) es r xs mv) {h:Int} (hm:h∈lvs T S C H K V L l 0):ce T S H r (ix (ren mv h)) 0=4 * ge (ren mv h)+1∧(∀ f,1≤f→f<6→ce T S H r (ix (ren mv h)) f=ce T S H l (ix h) f)∧∀ y,0≤y→y<H→ce T S H r (ix (ren mv h)) (6+y)=ren mv (ce T S H l (ix h) (6+y)):=by
 have hH:=lf.wd.r.h
 obtain ⟨l1,l2,l3⟩:=F.st.live h hm
 have hi:=l1.2.2.2
 refine ⟨?_,fun f f0 f1=>?_,fun y y0 y1=>?_⟩
 ·rw [F.cel _ 0 (by omega) hi.2 (by omega) (by omega),if_neg (by omega)]; exact l2
 ·rw [F.cel _ f (by omega) hi.2 (by omega) (by omega),if_neg (by omega)]; exact l3 f f0 (by omega)
 ·rw [F.cel _ (6+y) (by omega) hi.2 (by omega) (by omega),if_pos ⟨by omega,by omega⟩,l3 (6+y) (by omega) (by omega)]
theorem head_ce (lf:Lf T S C H K V L l) (F:Fin T S C H K V L l (lvs T S C H K V L l 0) es r xs mv):ce T S H r 0 0=1∧∀ y,0≤y→y<H→ce T S H r 0 (6+y)=ren mv (ce T S H l 0 (6+y)):=by
 have hC:=lf.wd.r.c
 have hH:=lf.wd.r.h
 have h0:∀ f,0≤f→f<6+H→ce T S H xs 0 f=ce T S H l 0 f:=fun f f0 f1=>F.st.out _ (by unfold cellI; omega)
 refine ⟨?_,fun y y0 y1=>?_⟩
 ·rw [F.cel 0 0 (by omega) (by omega) (by omega) (by omega),if_neg (by omega),h0 0 (by omega) (by omega)]; exact lf.one
 ·rw [F.cel 0 (6+y) (by omega) (by omega) (by omega) (by omega),h0 0 (by omega) (by omega),lf.one,if_pos ⟨by decide,by omega⟩,h0 (6+y) (by omega) (by omega)]
theorem ren_lo (o:Own T S C H K V L l (lvs T S C H K V L l 0) es) (F:Fin T S C H K V L l (lvs T S C H K V L l 0) es r xs mv) {v:Int} (h:v<9223372036854775808):ren mv v=v:=ren_out F fun hm=>by
 have:=(o.good v (List.mem_append.2 (.inl hm))).1.1
 omega
theorem walk_map (o:Own T S C H K V L l (lvs T S C H K V L l 0) es) (lf:Lf T S C H K V L l) (F:Fin T S C H K V L l (lvs T S C H K V L l 0) es r xs mv) {lev:Int} (h0:0≤lev) (h1:lev<H):∀ (m:Nat) (j x:Int),0≤x→x<18446744073709551616→x / 4611686018427387904 % 2=0→(∀ p∈ylF C (nmF T S C H K V L l) plF (nxF T S C H K V L l lev) m j x,p.2∈lvs T S C H K V L l lev)→ylE C (nmF T S C H K V L l) (nxF T S C H K V L l lev) m j x<9223372036854775808 →
  (ylF C (nmF T S C H K V L r) plF (nxF T S C H K V L r lev) m j (ren mv x)).map (·.2)=((ylF C (nmF T S C H K V L l) plF (nxF T S C H K V L l lev) m j x).map (·.2)).map (ren mv)∧ylE C (nmF T S C H K V L r) (nxF T S C H K V L r lev) m j (ren mv x)=ylE C (nmF T S C H K V L l) (nxF T S C H K V L l lev) m j x
 | 0,j,x,x0,x1,hx,hy,he=>⟨rfl,ren_lo o F he⟩
 | m+1,j,x,x0,x1,hx,hy,he=>by
  have hC:=lf.wd.r.c
  have hH:=lf.wd.r.h
  rw [ylF] at hy
  rw [ylE] at he
  rw [ylF,ylE,ylF,ylE]
  by_cases q:j≤C
  ·rw [if_pos q] at hy he
   rw [if_pos q,if_pos q,if_pos q,if_pos q]
   by_cases hn:nmF T S C H K V L l x=true
   ·rw [if_pos hn] at hy he
    have hp:plF x=x:=by rw [plF_is x0 x1,if_neg (by omega)]
    have hm:=hy _ List.mem_cons_self
    rw [show ((j,plF x):Int × Int).2=x from hp] at hm
    have hm0:=lf.low lev x h0 h1 hm
    obtain ⟨g1,_,_⟩:=F.st.live x hm0
    obtain ⟨c0,c1,c2⟩:=new_ce lf F hm0
    have gi:=g1.2.2.2
    have hn2:nmF T S C H K V L r (ren mv x)=true:=by
     rw [nm_is (by have:=g1.1; omega) g1.2.1,decide_eq_true (show ren mv x≥9223372036854775808 from g1.1),decide_eq_true (show ren mv x % 4294967296≥1 from gi.1),decide_eq_true (show ren mv x % 4294967296≤C from gi.2)]
     rfl
    have hp2:plF (ren mv x)=ren mv x:=by rw [plF_is (by have:=g1.1; omega) g1.2.1,if_neg (by have:=g1.2.2.1; omega)]
    have hxm:=lf.wd.mem hm
    have ht:=lf.tall lev x h0 h1 hm
    have hst:=((lf.st x hm0).2.2 lev h0 ht.1).1
    have hnx:nxF T S C H K V L l lev x=ce T S H l (ix x) (6+lev):=lf.wd.atc (by omega) hxm.2.2.2 (by omega) (by omega)
    have hnx2:nxF T S C H K V L r lev (ren mv x)=ren mv (nxF T S C H K V L l lev x):=by
     rw [hnx,← c2 lev h0 h1]
     exact F.wd.atc (by unfold ix at gi; omega) gi.2 (by omega) (by omega)
    have hxu:=lf.wd.ceu (ix x) (6+lev)
    obtain ⟨ih1,ih2⟩:=walk_map o lf F h0 h1 m (j+1) (nxF T S C H K V L l lev x) (by rw [hnx]; exact hxu.1) (by rw [hnx]; exact hxu.2) (by rw [hnx]; exact hst) (fun p hp=>hy p (List.mem_cons_of_mem _ hp)) he
    rw [if_pos hn,if_pos hn,if_pos hn2,if_pos hn2,hnx2,List.map_cons,List.map_cons,List.map_cons,ih1,ih2,hp2,hp]
    exact ⟨rfl,rfl⟩
   ·rw [if_neg hn] at he
    have hx2:=ren_lo o F he
    have hn2:¬ nmF T S C H K V L r (ren mv x)=true:=by rw [hx2,nm_is x0 x1]; rw [nm_is x0 x1] at hn; exact hn
    rw [if_neg hn,if_neg hn,if_neg hn2,if_neg hn2]
    exact ⟨rfl,hx2⟩
  ·rw [if_neg q] at he
   rw [if_neg q,if_neg q,if_neg q,if_neg q]
   exact ⟨rfl,ren_lo o F he⟩
theorem lvs_map (o:Own T S C H K V L l (lvs T S C H K V L l 0) es) (lf:Lf T S C H K V L l) (F:Fin T S C H K V L l (lvs T S C H K V L l 0) es r xs mv) {lev:Int} (h0:0≤lev) (h1:lev<H):lvs T S C H K V L r lev=(lvs T S C H K V L l lev).map (ren mv)∧endF T S C H K V L r lev=endF T S C H K V L l lev:=by
 have hC:=lf.wd.r.c
 have hH:=lf.wd.r.h
 have hx:atF T S C H K V L l 0 (6+lev)=ce T S H l 0 (6+lev):=lf.wd.atc (by omega) (by omega) (by omega) (by omega)
 have hx2:atF T S C H K V L r 0 (6+lev)=ren mv (ce T S H l 0 (6+lev)):=by
  rw [← (head_ce lf F).2 lev h0 h1]
  exact F.wd.atc (by omega) (by omega) (by omega) (by omega)
 have hu:=lf.wd.ceu 0 (6+lev)
 have:=walk_map o lf F h0 h1 (C.toNat+1) 0 (ce T S H l 0 (6+lev)) hu.1 hu.2 (lf.hd lev h0 h1) (fun p hp=>by
  unfold lvs
  rw [lf.wd.lv h0 h1,hx]
  exact List.mem_map.2 ⟨p,hp,rfl⟩) (by have:=lf.fin lev h0 h1; unfold endF at this; rw [hx] at this; exact this)
 unfold lvs endF
 rw [F.wd.lv h0 h1,lf.wd.lv h0 h1,hx,hx2]
 exact this
end
end Go.Eng
namespace Go.Eng
open Go.Proofs Go.RowKit Go.Proofs.YtgbcnokeaaabfaaGreatW.PrintWords
set_option linter.unusedVariables false
set_option linter.unusedSimpArgs false
section
variable {T S C H K V L:Int} {l:List Int}
theorem both_fin (hw:Wd T S C H K V L l) (hl:l.length≤400) {l2:List S47} (hb:l2.length≤40) (hue:∀ e∈l2,0≤e.f0∧e.f0<18446744073709551616) (hR:RestB T S C H K V L l (l2.map (·.f0))=true) {k:Nat} (hk:2900≤k):∃ r xs mv,Own T S C H K V L l (lvs T S C H K V L l 0) (l2.map (·.f0))∧Fin T S C H K V L l (lvs T S C H K V L l 0) (l2.map (·.f0)) r xs mv∧r.length=l.length∧pack_Cells.f k T S C H K V L l [l2.map nw]=some (r,true):=by
 obtain ⟨r,xs,mv,F,e⟩:=Cells_fin hw hk hl (e2:=l2) (by omega) hue hR
 have hf:([l2.map nw]:List (List S53)).flatten=l2.map nw:=by rw [List.flatten_cons,List.flatten_nil,List.append_nil]
 obtain ⟨r',b,hr,e1,e2,_⟩:=Cells_is (T:=T) (S:=S) (C:=C) (H:=H) (K:=K) (V:=V) (L:=L) hk hw.u hl (ll:=[l2.map nw]) (e2:=l2) (by simp) (by rw [hf,List.length_map]; omega) (by rw [hf]; exact nw_f0 l2) hue
 rw [e] at e2
 injection e2 with e2
 injection e2 with e3 e4
 subst e3 e4
 refine ⟨r,xs,mv,Own.of hw (fun a ha=>by obtain ⟨e,he,rfl⟩:=List.mem_map.1 ha; exact hue e he) hR,F,?_,e1⟩
 have h1:=F.wd.len
 have h2:=hw.len
 omega
end
end Go.Eng
namespace Go.Eng
open Go.Proofs Go.RowKit Go.Proofs.YtgbcnokeaaabfaaGreatW.PrintWords
set_option linter.unusedVariables false
set_option linter.unusedSimpArgs false
section
variable {T S C H K V L:Int} {l:List Int}
theorem hand_l1 {r was now:List Int} {l2:List S47} (hn:now.length≤1000) {x:Int} (hx0:0≤x) (hx1:x<1000) {t c h:Int} (hh0:0≤h) (hh1:h<18446744073709551616) (hr:rd was x=h) (hc:sr04_Cell.f T S C H K V L t 0=some c) (hc0:0≤c) (hc1:c<(r.length:Int)):∀ (rest:List Int) (k i:Nat) (fl:Bool),now.drop i=rest→((fl=true∨h∈rest)∨rd r c≠4 * ge h+1)→stepstonelaw22_PackHandles.l1 (rest.length+1+k) T S C H K V L l2 r was now x t fl (i:Int)=stepstonelaw22_PackHandles.l0 k T S C H K V L l2 r was now (x+1)
 | [],k,i,fl,hd,hq=>by
  have h1:now.length≤i:=List.drop_eq_nil_iff.1 hd
  rw [show ([]:List Int).length+1+k=k+1 by simp; omega,stepstonelaw22_PackHandles.l1,if_neg (by omega),hc,wi64 (n:=x+1) (by omega) (by omega)]
  simp only [Option.bind_some]
  rw [if_pos hc0,if_pos hc1]
  cases fl with
  | true =>
   rw [if_pos rfl]
   simp only [Option.bind_some]
   rw [if_neg (by decide)]
  | false =>
   have hg:=ge_range h
   have hne:rd r c≠4 * ge h+1:=hq.resolve_left (fun z=>z.elim (fun y=>Bool.noConfusion y) (fun y=>absurd y List.not_mem_nil))
   rw [if_neg (by decide),hr,ref_gen hh0 hh1]
   simp only [Option.bind_some]
   rw [show h / 4294967296 % 1073741824=ge h from rfl,ref_taken hg.1 hg.2]
   simp only [Option.bind_some]
   rw [show (rd r c == 4 * ge h+1)=false from beq_eq_false_iff_ne.2 hne,if_neg (by decide)]
 | y :: rest,k,i,fl,hd,hq=>by
  obtain ⟨h1,h2,h3⟩:=drop_cons' hd
  have e1:rd now (i:Int)=y:=by unfold rd; rw [Int.toNat_natCast,List.getD_eq_getElem?_getD,h2]; rfl
  rw [show (y :: rest).length+1+k=(rest.length+1+k)+1 by rw [List.length_cons]; omega,stepstonelaw22_PackHandles.l1,if_pos (by omega),if_pos (by omega),e1,hr,wrap_succ (by omega)]
  cases fl with
  | true =>
   rw [if_pos rfl]
   simp only [Option.bind_some]
   exact hand_l1 hn hx0 hx1 hh0 hh1 hr hc hc0 hc1 rest k (i+1) true h3 (.inl (.inl rfl))
  | false =>
   rw [if_neg (by decide)]
   simp only [Option.bind_some]
   refine hand_l1 hn hx0 hx1 hh0 hh1 hr hc hc0 hc1 rest k (i+1) (y == h) h3 ?_
   refine hq.imp (fun z=>?_) id
   rcases z with z | z
   ·exact Bool.noConfusion z
   ·rcases List.mem_cons.1 z with z | z
    ·exact .inl (beq_iff_eq.2 z.symm)
    ·exact .inr z
theorem hand_l0 {r was now:List Int} {l2:List S47} (hw:Wd T S C H K V L r) (hn:now.length≤900) (hwl:was.length≤900) (hwas:∀ h∈was,0≤h∧h<18446744073709551616∧1≤ix h∧ix h≤C∧(h∈now∨ce T S H r (ix h) 0≠4 * ge h+1)) {k0:Nat}:∀ (rest:List Int) (i:Nat),was.drop i=rest→stepstonelaw22_PackHandles.l0 (rest.length * (now.length+2)+1+k0) T S C H K V L l2 r was now (i:Int)=stepstonelaw22_PackHandles.l2 k0 T S C H K V L l2 r was now 0
 | [],i,hd=>by
  have h1:was.length≤i:=List.drop_eq_nil_iff.1 hd
  rw [show ([]:List Int).length * (now.length+2)+1+k0=k0+1 by simp; omega,stepstonelaw22_PackHandles.l0,if_neg (by omega)]
 | h :: rest,i,hd=>by
  have hH:=hw.r.h
  obtain ⟨h1,h2,h3⟩:=drop_cons' hd
  have e1:rd was (i:Int)=h:=by unfold rd; rw [Int.toNat_natCast,List.getD_eq_getElem?_getD,h2]; rfl
  obtain ⟨u0,u1,i0,i1,hq⟩:=hwas h (List.mem_of_getElem? h2)
  obtain ⟨_,ec,c0,c1⟩:=hw.cell (i:=h % 4294967296) (f:=0) (by unfold ix at i0; omega) i1 (by omega) (by omega)
  rw [show (h :: rest).length * (now.length+2)+1+k0=(now.length+1+(rest.length * (now.length+2)+1+k0))+1 by rw [List.length_cons,Nat.succ_mul]; omega,stepstonelaw22_PackHandles.l0,if_pos (by omega),if_pos (by omega),e1,ref_index u0]
  simp only [Option.bind_some]
  have e2:=hand_l1 (T:=T) (S:=S) (C:=C) (H:=H) (K:=K) (V:=V) (L:=L) (r:=r) (was:=was) (now:=now) (l2:=l2) (by omega) (x:=(i:Int)) (by omega) (by omega) u0 u1 e1 ec c0 c1 now (rest.length * (now.length+2)+1+k0) 0 false rfl (hq.imp (fun z => .inr z) (fun z=>z))
  rw [show ((0:Nat):Int)=0 from rfl] at e2
  rw [e2]
  exact hand_l0 hw hn hwl hwas rest (i+1) h3
theorem hand_l2 {r was now:List Int} {l2:List S47} (hw:Wd T S C H K V L r) (hb:l2.length≤900) (hes:∀ e∈l2,0≤e.f0∧e.f0<18446744073709551616∧1≤ix e.f0∧ix e.f0≤C∧ce T S H r (ix e.f0) 0≠4 * ge e.f0+1) (hl:now.length=was.length):∀ (rest:List S47) (k i:Nat),l2.drop i=rest→rest.length<k→stepstonelaw22_PackHandles.l2 k T S C H K V L l2 r was now (i:Int)=some true
 | rest,0,i,_,h=>absurd h (by omega)
 | [],k+1,i,hd,_=>by
  have h1:l2.length≤i:=List.drop_eq_nil_iff.1 hd
  rw [stepstonelaw22_PackHandles.l2,if_neg (by omega),hl]
  simp
 | e :: rest,k+1,i,hd,hk=>by
  have hH:=hw.r.h
  obtain ⟨h1,h2,h3⟩:=drop_cons' hd
  have e1:rd_T47 l2 (i:Int)=e:=by unfold rd_T47; rw [Int.toNat_natCast,List.getD_eq_getElem?_getD,h2]; rfl
  obtain ⟨u0,u1,i0,i1,hq⟩:=hes e (List.mem_of_getElem? h2)
  obtain ⟨_,ec,c0,c1⟩:=hw.cell (i:=e.f0 % 4294967296) (f:=0) (by unfold ix at i0; omega) i1 (by omega) (by omega)
  have hg:=ge_range e.f0
  rw [List.length_cons] at hk
  rw [stepstonelaw22_PackHandles.l2,if_pos (by omega),if_pos (by omega),e1,ref_index u0]
  simp only [Option.bind_some]
  rw [ec]
  simp only [Option.bind_some]
  rw [if_pos c0,if_pos c1,ref_gen u0 u1]
  simp only [Option.bind_some]
  rw [show e.f0 / 4294967296 % 1073741824=ge e.f0 from rfl,ref_taken hg.1 hg.2]
  simp only [Option.bind_some]
  rw [if_neg (show ¬ rd r (cellI T S H (e.f0 % 4294967296) 0)=4 * ge e.f0+1 from hq),wrap_succ (by omega)]
  exact hand_l2 hw hb hes hl rest k (i+1) h3 (by omega)
theorem news_isk {l2:List S47} (hb:l2.length≤1000) {k:Nat} (hk:l2.length<k):stepstonelaw06_News.f k l2=some (l2.map nw) :=
 news_l0 hb l2 k 0 [] rfl (by rw [List.length_nil]; omega) hk
theorem gone_ne {xs r:List Int} {h:Int} (e:ce T S H r (ix h) 0=ce T S H xs (ix h) 0) (hg:gone T S H xs h):ce T S H r (ix h) 0≠4 * ge h+1:=by
 unfold gone at hg
 rw [e]
 intro q
 rw [q] at hg
 omega
theorem packHandles_is {k:Nat} (hk:3000≤k) (hu:∀ x∈l,0≤x∧x<18446744073709551616) {l2:List S47} (hue:∀ e∈l2,0≤e.f0∧e.f0<18446744073709551616) (at_:Int):stepstonelaw22_PackHandles.f k T S C H K V L l l2 at_=some true:=by
 unfold stepstonelaw22_PackHandles.f
 by_cases q1:C > 20
 ·rw [if_pos q1]; simp only [Option.bind_some,if_true]
 rw [if_neg q1]
 by_cases q2:((l.length:Int):Int) > 400
 ·rw [if_pos q2]; simp only [Option.bind_some,if_true]
 rw [if_neg q2]
 by_cases q3:((l2.length:Int):Int) > 40
 ·rw [if_pos q3]; simp only [Option.bind_some,if_true]
 rw [if_neg q3]
 by_cases hW:R7 T S C H K V L∧(l.length:Int)=lenI T S C H
 ·have hw:Wd T S C H K V L l:=⟨hW.1,hW.2,hu⟩
  have hC:=hw.r.c
  have hH:=hw.r.h
  rw [hw.rRest (k:=k) (by omega) (by omega) hue]
  simp only [Option.bind_some]
  cases hR:RestB T S C H K V L l (l2.map (·.f0)) with
  | false=>simp
  | true =>
   obtain ⟨r,xs,mv,o,F,hlen,e1⟩:=both_fin hw (by omega) (by omega) hue hR (k:=k) (by omega)
   have lf:=Lf.of hw hR
   have hln:=lf.len 0 (Int.le_refl 0) (by omega)
   have hce:∀ h,1≤ix h→ix h≤C→ce T S H r (ix h) 0=ce T S H xs (ix h) 0:=fun h h0 h1=>by rw [F.cel _ 0 (by omega) h1 (by omega) (by omega),if_neg (by omega)]
   rw [Bool.not_true,if_neg (by decide),news_isk (by omega) (by omega)]
   simp only [Option.bind_some]
   rw [e1]
   simp only [Option.bind_some]
   rw [if_pos (by omega),hw.rlevel (by omega) (Int.le_refl 0) (by omega),F.wd.rlevel (by omega) (Int.le_refl 0) (by omega),(lvs_map o lf F (Int.le_refl 0) (by omega)).1]
   simp only [Option.bind_some]
   have hwas:∀ h∈lvs T S C H K V L l 0,0≤h∧h<18446744073709551616∧1≤ix h∧ix h≤C∧(h∈(lvs T S C H K V L l 0).map (ren mv)∨ce T S H r (ix h) 0≠4 * ge h+1):=fun h hh=>by
    have hm:=hw.mem hh
    refine ⟨hm.1,hm.2.1,hm.2.2.1,hm.2.2.2,?_⟩
    rcases F.st.mvd h hh with q | q
    ·exact .inl (List.mem_map.2 ⟨h,hh,ren_none q⟩)
    ·exact .inr (gone_ne (hce h hm.2.2.1 hm.2.2.2) q.2.2)
   have hes:∀ e∈l2,0≤e.f0∧e.f0<18446744073709551616∧1≤ix e.f0∧ix e.f0≤C∧ce T S H r (ix e.f0) 0≠4 * ge e.f0+1:=fun e he=>by
    obtain ⟨g1,g2,g3⟩:=F.st.esg e.f0 (List.mem_map.2 ⟨e,he,rfl⟩)
    exact ⟨(hue e he).1,(hue e he).2,g1,g2,gone_ne (hce _ g1 g2) g3⟩
   have hmul:(lvs T S C H K V L l 0).length * ((lvs T S C H K V L l 0).length+2)≤20 * 22:=Nat.mul_le_mul (by omega) (by omega)
   have e2:=hand_l0 (l2:=l2) F.wd (now:=(lvs T S C H K V L l 0).map (ren mv)) (by rw [List.length_map]; omega) (by omega) hwas (k0:=k - 1 - (lvs T S C H K V L l 0).length * ((lvs T S C H K V L l 0).length+2)) (lvs T S C H K V L l 0) 0 rfl
   rw [List.length_map,show (lvs T S C H K V L l 0).length * ((lvs T S C H K V L l 0).length+2)+1+(k - 1 - (lvs T S C H K V L l 0).length * ((lvs T S C H K V L l 0).length+2))=k by omega,show ((0:Nat):Int)=0 from rfl] at e2
   rw [e2]
   have e3:=hand_l2 F.wd (was:=lvs T S C H K V L l 0) (now:=(lvs T S C H K V L l 0).map (ren mv)) (by omega) hes (List.length_map _) l2 (k - 1 - (lvs T S C H K V L l 0).length * ((lvs T S C H K V L l 0).length+2)) 0 rfl (by omega)
   rw [show ((0:Nat):Int)=0 from rfl] at e3
   rw [e3]
 ·rw [(noRest hW [] l2 k).2]
  simp only [Option.bind_some,Bool.not_false,if_true]
end
theorem packHandles_con (T S C H K V L:Int) (A1:Option Addr) (c1:Nat) (l:List Int) (A2:Option Addr) (c2:Nat) (l2:List S47) (at_:Int) (hw:l.length≤maxLen∧∀ x∈l,(Lit.int .u64 x).wf=true) (he:∀ e∈l2,(Lit.int .u64 e.f0).wf=true) (w0:World) (Hs:List Nat):Con Tryz.prog 5 #[.agg #[.int .i64 T,.int .i64 S,.int .i64 C,.int .i64 H,.int .i64 K,.int .i64 V,.int .i64 L],.slice A1 l.length c1,.agg #[.slice A2 l2.length c2,.int .i64 at_]] w0 Hs [.f (KC (Kd.int .u64) A1 c1 l),.f (KC k47 A2 c2 l2)] (fun X=>X (.bool true) []) :=
 stepstonelaw22_PackHandles_con 3000 T S C H K V L A1 c1 l A2 c2 l2 at_ true (packHandles_is (Nat.le_refl 3000) (u64_of hw) (fun e h=>u64w (he e h)) at_) w0 Hs
end Go.Eng
