/-
Own text, put together by an own program (shake.py) out of this claim's texts: what its theorem needs of them.
-/
import Derived.Test.YtgbcnokeaaabfaaGreatA10
namespace Go.Eng
open Go.Proofs Go.RowKit Go.Proofs.YtgbcnokeaaabfaaGreatW.PrintWords
set_option linter.unusedVariables false
set_option linter.unusedSimpArgs false
section
variable {T S C H K V L:Int} {l lv es:List Int}
theorem rd_out0 (hw:Wd T S C H K V L l) {i f v j:Int} (h0:0≤i) (h1:i≤C) (h2:0≤f) (h3:f<6+H) (hj:j<cellI T S H 0 0):rd (l.set (Int.toNat (cellI T S H i f)) v) j=rd l j:=by
 have hH:=hw.r.h
 obtain ⟨_,_,c0,c1⟩:=hw.cell h0 h1 h2 h3
 have:0≤i * (6+H):=Int.mul_nonneg h0 (by omega)
 have hT:=(lens hw.r).1
 unfold cellI at c0 c1 hj ⊢
 rw [rd_set (by omega),if_neg (by omega)]
theorem rcells_l23 {mv:List (Int × Int)} (hmb:mv.length≤100) (hmu:∀ p∈mv,0≤p.2∧p.2<18446744073709551616):∀ (n:Nat) (x:Int) {xs:List Int},Wd T S C H K V L xs→0≤x→(C+1 - x).toNat=n→∃ r,Wd T S C H K V L r∧(∀ i f,0≤i→i≤C→0≤f→f<6+H→ce T S H r i f=if x≤i∧ce T S H xs i 0 % 4=1∧6≤f then ren mv (ce T S H xs i f) else ce T S H xs i f)∧(∀ j,j<cellI T S H 0 0→rd r j=rd xs j)∧∀ k,n * 10+300≤k→sr22_Cells.l2 k T S C H K V L (mv.map s79) x xs=some (r,true):=by
 intro n
 induction n with
 | zero =>
  intro x xs hw hx hm
  have hC:=hw.r.c
  refine ⟨xs,hw,fun i f i0 i1 f0 f1=>by rw [if_neg (by omega)],fun _ _=>rfl,fun k hk=>?_⟩
  obtain ⟨k,rfl⟩:∃ z,k=z+1:=⟨k - 1,by omega⟩
  rw [sr22_Cells.l2,if_neg (by omega)]
 | succ n ih =>
  intro x xs hw hx hm
  have hC:=hw.r.c
  have hH:=hw.r.h
  have hu:=hw.rdu (cellI T S H x 0)
  have inner:∀ (m:Nat) (y:Int) {xs:List Int},Wd T S C H K V L xs→ce T S H xs x 0 % 4=1→0≤y→(H - y).toNat=m→∃ r,Wd T S C H K V L r∧(∀ i f,0≤i→i≤C→0≤f→f<6+H→ce T S H r i f=if (x<i∨i=x∧6+y≤f)∧ce T S H xs i 0 % 4=1∧6≤f then ren mv (ce T S H xs i f) else ce T S H xs i f)∧(∀ j,j<cellI T S H 0 0→rd r j=rd xs j)∧∀ k,m+n * 10+301≤k→sr22_Cells.l3 k T S C H K V L (mv.map s79) x y xs=some (r,true):=by
   intro m
   induction m with
   | zero =>
    intro y xs hw hq hy hm'
    obtain ⟨r,hr,h1,h2,h⟩:=ih (x+1) hw (by omega) (by omega)
    refine ⟨r,hr,fun i f i0 i1 f0 f1=>?_,h2,fun k hk=>?_⟩
    ·rw [h1 i f i0 i1 f0 f1]
     by_cases q:x+1≤i∧ce T S H xs i 0 % 4=1∧6≤f
     ·rw [if_pos q,if_pos ⟨by omega,q.2⟩]
     ·rw [if_neg q,if_neg (fun z=>q ⟨by omega,z.2⟩)]
    ·obtain ⟨k,rfl⟩:∃ z,k=z+1:=⟨k - 1,by omega⟩
     rw [sr22_Cells.l3,if_neg (by omega),wi64 (n:=x+1) (by omega) (by omega)]
     exact h k (by omega)
   | succ m ihm =>
    intro y xs hw hq hy hm'
    have hu:=hw.rdu (cellI T S H x (6+y))
    have hv:0≤ren mv (ce T S H xs x (6+y))∧ren mv (ce T S H xs x (6+y))<18446744073709551616:=by
     unfold ren
     cases e:mget mv (ce T S H xs x (6+y)) with
     | none=>exact hu
     | some v=>exact hmu _ (mget_mem e)
    have hcs:=fun a b (a0:0≤a) (a1:a≤C) (b0:0≤b) (b1:b<6+H)=>ce_set hw (v:=ren mv (ce T S H xs x (6+y))) (i:=x) (f:=6+y) hx (by omega) (by omega) (by omega) a0 a1 b0 b1
    obtain ⟨r,hr,h1,h2,h⟩:=ihm (y+1) (hw.set (i:=x) (f:=6+y) hv) (by rw [hcs x 0 hx (by omega) (by omega) (by omega),if_neg (by omega)]; exact hq) (by omega) (by omega)
    refine ⟨r,hr,fun i f i0 i1 f0 f1=>?_,fun j hj=>?_,fun k hk=>?_⟩
    ·rw [h1 i f i0 i1 f0 f1,hcs i f i0 i1 f0 f1,hcs i 0 i0 i1 (by omega) (by omega),if_neg (show ¬ (x=i∧6+y=0) by omega)]
     by_cases e:x=i∧6+y=f
     ·rw [if_pos e,if_neg (by omega),if_pos ⟨.inr ⟨e.1.symm,by omega⟩,by rw [← e.1]; exact hq,by omega⟩,← e.1,← e.2]
     ·rw [if_neg e]
      by_cases q:(x<i∨i=x∧6+(y+1)≤f)∧ce T S H xs i 0 % 4=1∧6≤f
      ·rw [if_pos q,if_pos ⟨by omega,q.2⟩]
      ·rw [if_neg q,if_neg (fun z=>q ⟨by omega,z.2⟩)]
    ·rw [h2 j hj,rd_out0 hw hx (by omega) (by omega) (by omega) hj]
    ·obtain ⟨k,rfl⟩:∃ z,k=z+1:=⟨k - 1,by omega⟩
     rw [sr22_Cells.l3,if_pos (by omega),wi64 (n:=6+y) (by omega) (by omega),wi64 (n:=y+1) (by omega) (by omega),hw.r22at hx (by omega) (by omega) (by omega)]
     simp only [Option.bind_some]
     rw [becomes_is hmb _ (by omega)]
     simp only [Option.bind_some]
     rw [hw.r22with hx (by omega) (by omega) (by omega)]
     exact h k (by omega)
  by_cases q:rd xs (cellI T S H x 0) % 4=1
  ·obtain ⟨r,hr,h1,h2,h⟩:=inner H.toNat 0 hw q (Int.le_refl 0) (by omega)
   refine ⟨r,hr,fun i f i0 i1 f0 f1=>?_,h2,fun k hk=>?_⟩
   ·rw [h1 i f i0 i1 f0 f1]
    by_cases q2:x≤i∧ce T S H xs i 0 % 4=1∧6≤f
    ·rw [if_pos q2,if_pos ⟨by omega,q2.2⟩]
    ·rw [if_neg q2,if_neg (fun z=>q2 ⟨by omega,z.2⟩)]
   ·obtain ⟨k,rfl⟩:∃ z,k=z+1:=⟨k - 1,by omega⟩
    rw [sr22_Cells.l2,if_pos (by omega),hw.r22at hx (by omega) (by omega) (by omega)]
    simp only [Option.bind_some]
    rw [ref_state hu.1]
    simp only [Option.bind_some]
    rw [if_pos q]
    exact h k (by omega)
  ·obtain ⟨r,hr,h1,h2,h⟩:=ih (x+1) hw (by omega) (by omega)
   refine ⟨r,hr,fun i f i0 i1 f0 f1=>?_,h2,fun k hk=>?_⟩
   ·rw [h1 i f i0 i1 f0 f1]
    by_cases q2:x≤i∧ce T S H xs i 0 % 4=1∧6≤f
    ·have:i≠x:=fun e=>q (by rw [e] at q2; exact q2.2.1)
     rw [if_pos q2,if_pos ⟨by omega,q2.2⟩]
    ·rw [if_neg q2,if_neg (fun z=>q2 ⟨by omega,z.2⟩)]
   ·obtain ⟨k,rfl⟩:∃ z,k=z+1:=⟨k - 1,by omega⟩
    rw [sr22_Cells.l2,if_pos (by omega),hw.r22at hx (by omega) (by omega) (by omega)]
    simp only [Option.bind_some]
    rw [ref_state hu.1,wi64 (n:=x+1) (by omega) (by omega)]
    simp only [Option.bind_some]
    rw [if_neg q]
    exact h k (by omega)
theorem lw_spec {xs:List Int}:∀ (n:Nat) (x:Int),1≤x→(lw T S H xs n x=0∧∀ j,x≤j→j<x+n→ce T S H xs j 0 % 4≠0)∨(x≤lw T S H xs n x∧lw T S H xs n x<x+n∧ce T S H xs (lw T S H xs n x) 0 % 4=0∧∀ j,x≤j→j<lw T S H xs n x→ce T S H xs j 0 % 4≠0)
 | 0,x,_ => .inl ⟨rfl,fun j h1 h2=>absurd h1 (by omega)⟩
 | n+1,x,hx=>by
  rw [lw_succ]
  by_cases q:rd xs (cellI T S H x 0) % 4=0
  ·rw [if_pos q]
   exact .inr ⟨Int.le_refl x,by omega,q,fun j h1 h2=>absurd h1 (by omega)⟩
  ·rw [if_neg q]
   have hq:∀ j,j=x→ce T S H xs j 0 % 4≠0:=fun j e=>by rw [e]; exact q
   rcases lw_spec n (x+1) (by omega) with h | h
   ·refine .inl ⟨h.1,fun j h1 h2=>?_⟩
    by_cases e:j=x
    ·exact hq j e
    ·exact h.2 j (by omega) (by omega)
   ·refine .inr ⟨by omega,by omega,h.2.2.1,fun j h1 h2=>?_⟩
    by_cases e:j=x
    ·exact hq j e
    ·exact h.2.2.2 j (by omega) (by omega)
structure Fin (T S C H K V L:Int) (l lv es:List Int) (r xs:List Int) (mv:List (Int × Int)):Prop where
 st:St T S C H K V L l lv es (C+1) xs mv
 wd:Wd T S C H K V L r
 cel:∀ i f,0≤i→i≤C→0≤f→f<6+H→ce T S H r i f=if ce T S H xs i 0 % 4=1∧6≤f then ren mv (ce T S H xs i f) else ce T S H xs i f
 out:∀ j,j<cellI T S H 0 0→rd r j=rd l j
theorem rcells_l1 (hlv:∀ h∈lv,hO C h):∀ (m:Nat) (x:Int) {xs:List Int} {mv:List (Int × Int)},St T S C H K V L l lv es x xs mv→1≤x→x+m=C+1→mv.length+m≤70→(∀ p∈mv,0≤p.2∧p.2<18446744073709551616)→∃ r xs' mv',Fin T S C H K V L l lv es r xs' mv'∧∀ k,m+1300≤k→sr22_Cells.l1 k T S C H K V L x (mv.map s79) xs=some (r,true)
 | 0,x,xs,mv,s,hx,hm,hb,hmu=>by
  have hC:=s.wd.r.c
  have hH:=s.wd.r.h
  obtain ⟨r,hr,h1,h2,h⟩:=rcells_l23 (mv:=mv) (by omega) hmu (C+1).toNat 0 s.wd (Int.le_refl 0) (by omega)
  have e:x=C+1:=by omega
  subst e
  refine ⟨r,xs,mv,⟨s,hr,fun i f i0 i1 f0 f1=>?_,fun j hj=>?_⟩,fun k hk=>?_⟩
  ·rw [h1 i f i0 i1 f0 f1]
   by_cases q:ce T S H xs i 0 % 4=1∧6≤f
   ·rw [if_pos ⟨i0,q⟩,if_pos q]
   ·rw [if_neg (fun z=>q z.2),if_neg q]
  ·rw [h2 j hj]
   refine s.out j ?_
   unfold cellI at hj ⊢
   omega
  ·obtain ⟨k,rfl⟩:∃ z,k=z+1:=⟨k - 1,by omega⟩
   rw [sr22_Cells.l1,if_neg (by omega)]
   exact h k (by omega)
 | m+1,x,xs,mv,s,hx,hm,hb,hmu=>by
  have hC:=s.wd.r.c
  have hH:=s.wd.r.h
  have hw:=s.wd
  have hu:=hw.rdu (cellI T S H x 0)
  by_cases q:rd xs (cellI T S H x 0) % 4=1
  ·rcases lw_spec (T:=T) (S:=S) (H:=H) (xs:=xs) (x - 1).toNat 1 (Int.le_refl 1) with h0 | h0
   ·obtain ⟨r,xs',mv',hF,h⟩:=rcells_l1 hlv m (x+1) (s.stay (fun _ j j0 j1=>h0.2 j j0 (by omega))) (by omega) (by omega) (by omega) hmu
    refine ⟨r,xs',mv',hF,fun k hk=>?_⟩
    obtain ⟨k,rfl⟩:∃ z,k=z+1:=⟨k - 1,by omega⟩
    rw [sr22_Cells.l1,if_pos (by omega),hw.rlowest (b:=x) (by omega) (by omega),hw.r22at (by omega) (by omega) (by omega) (by omega),wi64 (n:=x+1) (by omega) (by omega)]
    simp only [Option.bind_some]
    rw [ref_state hu.1]
    simp only [Option.bind_some]
    rw [q,if_pos rfl]
    simp only [Option.bind_some]
    rw [h0.1,if_neg (by decide)]
    exact h k (by omega)
   ·have hmo:=fun (k:Nat) (hk:100≤k)=>hw.moves (a:=x) (b:=lw T S H xs (x - 1).toNat 1) hx (by omega) h0.1 (by omega) (by omega) rfl (k:=k) hk
    obtain ⟨hk0,s'⟩:=s.move hlv hx (by omega) h0.1 (by omega) q h0.2.2.1 h0.2.2.2
    have hg2:=gn_range (hw.rdu (cellI T S H (lw T S H xs (x - 1).toNat 1) 0)).1
    obtain ⟨r,xs',mv',hF,h⟩:=rcells_l1 hlv m (x+1) s' (by omega) (by omega) (by rw [List.length_append,List.length_singleton]; omega) (fun p hp=>by
     rcases List.mem_append.1 hp with hp | hp
     ·exact hmu p hp
     ·rw [List.mem_singleton.1 hp]
      show 0≤oldF T S H (lw T S H xs (x - 1).toNat 1) xs∧oldF T S H (lw T S H xs (x - 1).toNat 1) xs<18446744073709551616
      unfold oldF hdl
      omega)
    refine ⟨r,xs',mv',hF,fun k hk=>?_⟩
    obtain ⟨k,rfl⟩:∃ z,k=z+1:=⟨k - 1,by omega⟩
    rw [sr22_Cells.l1,if_pos (by omega),hw.rlowest (b:=x) (by omega) (by omega),hw.r22at (by omega) (by omega) (by omega) (by omega),wi64 (n:=x+1) (by omega) (by omega)]
    simp only [Option.bind_some]
    rw [ref_state hu.1]
    simp only [Option.bind_some]
    rw [q,if_pos rfl]
    simp only [Option.bind_some]
    rw [if_pos (show decide (lw T S H xs (x - 1).toNat 1 > 0)=true from decide_eq_true (by omega)),(hmo k (by omega)).2.1]
    simp only [Option.bind_some]
    rw [if_pos (by rw [List.length_map]; omega)]
    have hh:=h k (by omega)
    rw [List.map_append] at hh
    exact hh
  ·obtain ⟨r,xs',mv',hF,h⟩:=rcells_l1 hlv m (x+1) (s.stay (fun z=>absurd z q)) (by omega) (by omega) (by omega) hmu
   refine ⟨r,xs',mv',hF,fun k hk=>?_⟩
   obtain ⟨k,rfl⟩:∃ z,k=z+1:=⟨k - 1,by omega⟩
   rw [sr22_Cells.l1,if_pos (by omega),hw.rlowest (b:=x) (by omega) (by omega),hw.r22at (by omega) (by omega) (by omega) (by omega),wi64 (n:=x+1) (by omega) (by omega)]
   simp only [Option.bind_some]
   rw [ref_state hu.1]
   simp only [Option.bind_some]
   rw [if_neg q]
   simp only [Option.bind_some]
   rw [if_neg (by decide)]
   exact h k (by omega)
end
end Go.Eng
namespace Go.Eng
open Go.Proofs Go.RowKit Go.Proofs.YtgbcnokeaaabfaaGreatW.PrintWords
set_option linter.unusedVariables false
set_option linter.unusedSimpArgs false
section
variable {T S C H K V L:Int} {l:List Int}
structure FrD (T S C H K V L:Int) (l dn xs:List Int):Prop where
 wd:Wd T S C H K V L xs
 fre:∀ e∈dn,ce T S H xs (ix e) 0=af (gn (ce T S H l (ix e) 0)) L
 oth:∀ i f,0≤i→i≤C→0≤f→f<6+H→(f≠0∨∀ e∈dn,ix e≠i)→ce T S H xs i f=ce T S H l i f
 out:∀ j,j<cellI T S H 1 0→rd xs j=rd l j
theorem FrD.step {dn xs:List Int} (s:FrD T S C H K V L l dn xs) {e:Int} (h0:1≤ix e) (h1:ix e≤C) (hne:∀ a∈dn,ix a≠ix e):FrD T S C H K V L l (dn ++ [e]) (frF T S H L (ix e) xs):=by
 have hH:=s.wd.r.h
 have hcs:=fun a b (a0:0≤a) (a1:a≤C) (b0:0≤b) (b1:b<6+H)=>ce_set s.wd (v:=af (gn (rd xs (cellI T S H (ix e) 0))) L) (i:=ix e) (f:=0) (by omega) h1 (Int.le_refl 0) (by omega) a0 a1 b0 b1
 have ee:ce T S H xs (ix e) 0=ce T S H l (ix e) 0:=s.oth _ 0 (by omega) h1 (by omega) (by omega) (.inr hne)
 refine ⟨(s.wd.frees (i:=ix e) (by omega) h1 rfl).2.2,fun a ha=>?_,fun i f i0 i1 f0 f1 q=>?_,fun j hj=>?_⟩
 ·rcases List.mem_append.1 ha with ha | ha
  ·have hr:0≤ix a∧(ix a≤C→ce T S H (frF T S H L (ix e) xs) (ix a) 0=ce T S H xs (ix a) 0):=⟨by unfold ix; omega,fun hb=>(hcs (ix a) 0 (by unfold ix; omega) hb (by omega) (by omega)).trans (if_neg (fun z=>hne a ha z.1.symm))⟩
   by_cases hb:ix a≤C
   ·rw [hr.2 hb]; exact s.fre a ha
   ·have:ce T S H (frF T S H L (ix e) xs) (ix a) 0=ce T S H xs (ix a) 0:=by
     obtain ⟨_,_,c0,c1⟩:=s.wd.cell (i:=ix e) (f:=0) (by omega) h1 (by omega) (by omega)
     unfold ce frF
     rw [rd_set (by omega),if_neg]
     intro z
     unfold cellI at z c0
     have h2:ix e * (6+H)+(6+H)≤ix a * (6+H):=by
      have:(ix e+1) * (6+H)≤ix a * (6+H):=Int.mul_le_mul_of_nonneg_right (by omega) (by omega)
      rw [Int.add_mul,Int.one_mul] at this
      exact this
     omega
    rw [this]; exact s.fre a ha
  ·rw [List.mem_singleton.1 ha]
   refine (hcs (ix e) 0 (by omega) h1 (by omega) (by omega)).trans ?_
   rw [if_pos ⟨rfl,rfl⟩,show rd xs (cellI T S H (ix e) 0)=ce T S H xs (ix e) 0 from rfl,ee]
 ·refine (hcs i f i0 i1 f0 f1).trans ?_
  rw [if_neg (fun z=>q.elim (fun y=>y z.2.symm) (fun y=>y e (List.mem_append.2 (.inr (List.mem_singleton_self e))) z.1))]
  exact s.oth i f i0 i1 f0 f1 (q.imp id (fun y a ha=>y a (List.mem_append.2 (.inl ha))))
 ·exact (rd_out s.wd h0 h1 (Int.le_refl 0) (by omega) hj).trans (s.out j hj)
structure Own (T S C H K V L:Int) (l lv es:List Int):Prop where
 wd:Wd T S C H K V L l
 good:∀ h∈lv ++ es,hO C h∧ce T S H l (ix h) 0=4 * ge h+1
 nd:((lv ++ es).map ix).Nodup
 tak:∀ i,1≤i→i≤C→ce T S H l i 0 % 4=1→∃ h∈lv ++ es,ix h=i
theorem Own.of (hw:Wd T S C H K V L l) {es:List Int} (hu:∀ e∈es,0≤e∧e<18446744073709551616) (hR:RestB T S C H K V L l es=true):Own T S C H K V L l (lvs T S C H K V L l 0) es:=by
 have hC:=hw.r.c
 have hH:=hw.r.h
 unfold RestB at hR
 simp only [Bool.and_eq_true] at hR
 obtain ⟨_,_,_,hO'⟩:=hR
 unfold ownB at hO'
 rw [Bool.and_eq_true] at hO'
 have hb:∀ h∈lvs T S C H K V L l 0 ++ es,0≤h∧h<18446744073709551616:=fun h hh=>by
  rcases List.mem_append.1 hh with hh | hh
  ·have:=hw.mem hh; omega
  ·exact hu h hh
 have good:∀ h∈lvs T S C H K V L l 0 ++ es,hO C h∧ce T S H l (ix h) 0=4 * ge h+1:=fun h hh=>by
  have hg:=List.all_eq_true.1 hO'.1 h hh
  have hbh:=hb h hh
  unfold goodB at hg
  rw [Bool.and_eq_true,Bool.and_eq_true,nm_is hbh.1 hbh.2] at hg
  obtain ⟨g1,g2,g3⟩:=hg
  simp only [Bool.and_eq_true,decide_eq_true_eq] at g1
  have g4:¬ h / 4611686018427387904 % 2=1:=by simpa using g2
  have g5:atF T S C H K V L l (h % 4294967296) 0=4 * (h / 4294967296 % 1073741824)+1:=beq_iff_eq.1 g3
  rw [hw.atc (by omega) (by omega) (by omega) (by omega)] at g5
  exact ⟨⟨g1.1.1,hbh.2,by omega,g1.1.2,g1.2⟩,g5⟩
 have tm:=fun i (h1:1≤i) (h2:i≤C)=>mks_iff.1 hO'.2 i h1 (by omega)
 refine ⟨hw,good,nd_of_cnt fun h hh=>?_,fun i i0 i1 q=>?_⟩
 ·have hg:=(good h hh).1.2.2.2
  have:=tm (ix h) hg.1 hg.2
  unfold tmB at this
  rw [Bool.and_eq_true] at this
  exact of_decide_eq_true this.1
 ·have:=tm i i0 i1
  unfold tmB at this
  rw [Bool.and_eq_true,hw.atc (by omega) i1 (by omega) (by omega),q] at this
  have h2:cntI (lvs T S C H K V L l 0 ++ es) i=1:=by
   have:=this.2
   simpa using this
  refine Classical.byContradiction fun hc=>?_
  have h3:=cnt_zero.2 (fun h hh e=>hc ⟨h,hh,e⟩)
  omega
theorem Own.start {lv es xs:List Int} (o:Own T S C H K V L l lv es) (s:FrD T S C H K V L l es xs):St T S C H K V L l lv es 1 xs []:=by
 have hC:=o.wd.r.c
 have hH:=o.wd.r.h
 have hLL:=o.wd.r.l
 have dis:∀ h∈lv,∀ e∈es,ix e≠ix h:=fun h hh e he q=>by
  have:=o.nd
  rw [List.map_append,List.nodup_append] at this
  exact this.2.2 (ix h) (List.mem_map.2 ⟨h,hh,rfl⟩) (ix e) (List.mem_map.2 ⟨e,he,rfl⟩) q.symm
 refine ⟨s.wd,fun h hh=>?_,fun a ha b hb e=>?_,fun i i0 i1 q=>?_,fun p hp=>absurd hp List.not_mem_nil,fun h hh => .inl rfl,fun e he=>?_,fun i j h1 h2 h3=>absurd h1 (by omega),s.out⟩
 ·obtain ⟨g1,g2⟩:=o.good h (List.mem_append.2 (.inl hh))
  have hi:=g1.2.2.2
  show hO C h∧ce T S H xs (ix h) 0=4 * ge h+1∧∀ f,1≤f→f<6+H→ce T S H xs (ix h) f=ce T S H l (ix h) f
  refine ⟨g1,?_,fun f f0 f1=>s.oth _ f (by omega) hi.2 (by omega) f1 (.inl (by omega))⟩
  exact (s.oth (ix h) 0 (by omega) hi.2 (by omega) (by omega) (.inr (dis h hh))).trans g2
 ·exact nd_inj o.nd a (List.mem_append.2 (.inl ha)) b (List.mem_append.2 (.inl hb)) e
 ·by_cases hd:∃ e∈es,ix e=i
  ·obtain ⟨e,he,rfl⟩:=hd
   rw [s.fre e he] at q
   unfold af at q
   split at q <;> omega
  ·rw [s.oth i 0 (by omega) i1 (by omega) (by omega) (.inr (fun e he z=>hd ⟨e,he,z⟩))] at q
   obtain ⟨h,hh,e⟩:=o.tak i i0 i1 q
   rcases List.mem_append.1 hh with hh | hh
   ·exact ⟨h,hh,e⟩
   ·exact absurd ⟨h,hh,e⟩ hd
 ·obtain ⟨g1,g2⟩:=o.good e (List.mem_append.2 (.inr he))
  have hi:=g1.2.2.2
  have hr:=ge_range e
  refine ⟨hi.1,hi.2,?_⟩
  unfold gone
  rw [s.fre e he,g2,gn_gen hr.1 hr.2 (by decide) (by decide)]
  unfold af
  split
  ·left; omega
  ·right; omega
theorem rcells_l0 {lv:List Int} {e2:List S47} (o:Own T S C H K V L l lv (e2.map (·.f0))) (hb:e2.length≤100):∀ (rest:List S47) (i:Nat) {xs:List Int},e2.drop i=rest→FrD T S C H K V L l ((e2.take i).map (·.f0)) xs→∃ r xs' mv',Fin T S C H K V L l lv (e2.map (·.f0)) r xs' mv'∧∀ k,rest.length+1500≤k→sr22_Cells.l0 k T S C H K V L e2 (i:Int) xs=some (r,true)
 | [],i,xs,hd,s=>by
  have h1:e2.length≤i:=List.drop_eq_nil_iff.1 hd
  have hC:=o.wd.r.c
  rw [List.take_of_length_le h1] at s
  obtain ⟨r,xs',mv',hF,h⟩:=rcells_l1 (fun h hh=>(o.good h (List.mem_append.2 (.inl hh))).1) C.toNat 1 (o.start s) (Int.le_refl 1) (by omega) (by rw [List.length_nil]; omega) (fun p hp=>absurd hp List.not_mem_nil)
  refine ⟨r,xs',mv',hF,fun k hk=>?_⟩
  rw [List.length_nil] at hk
  obtain ⟨k,rfl⟩:∃ z,k=z+1:=⟨k - 1,by omega⟩
  rw [sr22_Cells.l0,if_neg (by omega)]
  exact h k (by omega)
 | e :: rest,i,xs,hd,s=>by
  obtain ⟨h1,h2,h3⟩:=drop_cons' hd
  have r2:rd_T47 e2 (i:Int)=e:=by unfold rd_T47; rw [Int.toNat_natCast,List.getD_eq_getElem?_getD,h2]; rfl
  have hm:e.f0∈e2.map (·.f0):=List.mem_map.2 ⟨e,List.mem_of_getElem? h2,rfl⟩
  have hg:=(o.good e.f0 (List.mem_append.2 (.inr hm))).1
  have ht:(e2.take (i+1)).map (·.f0)=(e2.take i).map (·.f0) ++ [e.f0]:=by
   rw [List.take_add_one,h2,List.map_append]
   rfl
  have hne:∀ a∈(e2.take i).map (·.f0),ix a≠ix e.f0:=fun a ha q=>by
   have hn:=o.nd
   have e3:e2.map (·.f0)=((e2.take i).map (·.f0) ++ [e.f0]) ++ (e2.drop (i+1)).map (·.f0):=by rw [← ht,← List.map_append,List.take_append_drop]
   rw [e3,List.map_append,List.nodup_append] at hn
   have h4:=hn.2.1
   rw [List.map_append,List.nodup_append] at h4
   have h5:=h4.1
   rw [List.map_append,List.nodup_append] at h5
   exact h5.2.2 (ix a) (List.mem_map.2 ⟨a,ha,rfl⟩) (ix e.f0) (List.mem_map.2 ⟨e.f0,List.mem_singleton_self _,rfl⟩) q
  obtain ⟨r,xs',mv',hF,h⟩:=rcells_l0 o hb rest (i+1) (xs:=frF T S H L (ix e.f0) xs) h3 (by rw [ht]; exact s.step hg.2.2.2.1 hg.2.2.2.2 hne)
  refine ⟨r,xs',mv',hF,fun k hk=>?_⟩
  rw [List.length_cons] at hk
  obtain ⟨k,rfl⟩:∃ z,k=z+1:=⟨k - 1,by omega⟩
  have hgi:=hg.2.2.2
  rw [sr22_Cells.l0,if_pos (by omega),if_pos (by omega),r2,ref_index (by have:=hg.1; omega),wrap_succ (by omega)]
  simp only [Option.bind_some]
  rw [(s.wd.frees (i:=e.f0 % 4294967296) (by unfold ix at hgi; omega) hgi.2 rfl).2.1]
  simp only [Option.bind_some]
  exact h k (by omega)
theorem Cells_fin (hw:Wd T S C H K V L l) {k:Nat} (hk:2900≤k) (hl:l.length≤400) {e2:List S47} (hb:e2.length≤100) (hue:∀ e∈e2,0≤e.f0∧e.f0<18446744073709551616) (hR:RestB T S C H K V L l (e2.map (·.f0))=true):∃ r xs mv,Fin T S C H K V L l (lvs T S C H K V L l 0) (e2.map (·.f0)) r xs mv∧sr22_Cells.f k T S C H K V L l e2=some (r,true):=by
 have o:Own T S C H K V L l (lvs T S C H K V L l 0) (e2.map (·.f0)):=Own.of hw (fun a ha=>by obtain ⟨e,he,rfl⟩:=List.mem_map.1 ha; exact hue e he) hR
 obtain ⟨r,xs,mv,hF,h⟩:=rcells_l0 o hb e2 0 rfl (xs:=l) ⟨hw,fun e he=>absurd he List.not_mem_nil,fun _ _ _ _ _ _ _=>rfl,fun _ _=>rfl⟩
 refine ⟨r,xs,mv,hF,?_⟩
 unfold sr22_Cells.f
 rw [hw.rRest hk hb hue,hR]
 simp only [Option.bind_some]
 rw [if_pos trivial,if_pos (by rw [List.length_nil]; omega),List.nil_append]
 exact h k (by omega)
end
end Go.Eng
namespace Go.Eng
open Go.Proofs Go.RowKit Go.Proofs.YtgbcnokeaaabfaaGreatW.PrintWords
set_option linter.unusedVariables false
set_option linter.unusedSimpArgs false
section
variable {T S C H K V L:Int} {l es r xs:List Int} {mv:List (Int × Int)}
structure Lf (T S C H K V L:Int) (l:List Int):Prop where
 wd:Wd T S C H K V L l
 one:ce T S H l 0 0=1
 hd:∀ lev,0≤lev→lev<H→ce T S H l 0 (6+lev) / 4611686018427387904 % 2=0
 len:∀ lev,0≤lev→lev<H→((lvs T S C H K V L l lev).length:Int)≤C
 fin:∀ lev,0≤lev→lev<H→endF T S C H K V L l lev<9223372036854775808
 rl:∀ lev,0≤lev→lev<H→rlB T S C H K V L l lev true 0 (lvs T S C H K V L l lev)=true
 low:∀ lev h,0≤lev→lev<H→h∈lvs T S C H K V L l lev→h∈lvs T S C H K V L l 0
 nd:∀ lev h,0≤lev→lev<H→h∈lvs T S C H K V L l lev→ndB T S C H K V L l h lev=true
 tall:∀ lev h,0≤lev→lev<H→h∈lvs T S C H K V L l lev→lev<ce T S H l (ix h) 4∧ce T S H l (ix h) 4≤H
 st:∀ h,h∈lvs T S C H K V L l 0→ce T S H l (ix h) 2 % 2=0∧ce T S H l (ix h) 5=1∧∀ y,0≤y→y<ce T S H l (ix h) 4→ce T S H l (ix h) (6+y) / 4611686018427387904 % 2=0∧h∈lvs T S C H K V L l y
theorem rlB_nd {lev:Int}:∀ (ys:List Int) (f:Bool) (key:Int),rlB T S C H K V L l lev f key ys=true→∀ h∈ys,ndB T S C H K V L l h lev=true
 | [],_,_,_,h,hh=>absurd hh List.not_mem_nil
 | y :: t,f,key,hr,h,hh=>by
  unfold rlB at hr
  simp only [Bool.and_eq_true] at hr
  rcases List.mem_cons.1 hh with rfl | hh
  ·exact hr.2.1
  ·exact rlB_nd t _ _ hr.2.2 h hh
theorem Lf.of (hw:Wd T S C H K V L l) (hR:RestB T S C H K V L l es=true):Lf T S C H K V L l:=by
 have hC:=hw.r.c
 have hH:=hw.r.h
 unfold RestB at hR
 simp only [Bool.and_eq_true] at hR
 obtain ⟨hr,hz,hl,ho⟩:=hR
 have hr0:=hr
 unfold RightB at hr
 rw [Bool.and_eq_true] at hr
 have rg:=fun lev (h0:0≤lev) (h1:lev<H)=>mks_iff.1 hr.2 lev h0 (by omega)
 have lb:=fun lev (h0:0≤lev) (h1:lev<H)=>mks_iff.1 hl lev h0 (by omega)
 have rg2:∀ lev,0≤lev→lev<H→mkB T S C H K V L l 0 lev=false∧((lvs T S C H K V L l lev).length:Int)≤C∧¬ endF T S C H K V L l lev≥9223372036854775808∧rlB T S C H K V L l lev true 0 (lvs T S C H K V L l lev)=true:=fun lev h0 h1=>by
  have:=rg lev h0 h1
  unfold rgB at this
  simp only [Bool.and_eq_true,Bool.not_eq_true',decide_eq_true_eq,decide_eq_false_iff_not] at this
  exact this
 have lb2:∀ lev h,0≤lev→lev<H→h∈lvs T S C H K V L l lev→h∈lvs T S C H K V L l 0∧stB T S C H K V L l h=true:=fun lev h h0 h1 hm=>by
  have:=lb lev h0 h1
  unfold lvB at this
  have:=List.all_eq_true.1 this h hm
  rw [Bool.and_eq_true,List.contains_iff_mem] at this
  exact this
 have nd:∀ lev h,0≤lev→lev<H→h∈lvs T S C H K V L l lev→ndB T S C H K V L l h lev=true:=fun lev h h0 h1 hm=>rlB_nd _ _ _ (rg2 lev h0 h1).2.2.2 h hm
 have tall:∀ lev h,0≤lev→lev<H→h∈lvs T S C H K V L l lev→lev<ce T S H l (ix h) 4∧ce T S H l (ix h) 4≤H:=fun lev h h0 h1 hm=>by
  have h3:=nd lev h h0 h1 hm
  have hb:=hw.mem hm
  unfold ndB at h3
  simp only [Bool.and_eq_true,decide_eq_true_eq] at h3
  rw [hw.atc (by omega) hb.2.2.2 (by omega) (by omega)] at h3
  exact ⟨h3.2.1,h3.2.2.1⟩
 refine ⟨hw,?_,fun lev h0 h1=>?_,fun lev h0 h1=>(rg2 lev h0 h1).2.1,fun lev h0 h1=>Int.not_le.1 (rg2 lev h0 h1).2.2.1,fun lev h0 h1=>(rg2 lev h0 h1).2.2.2,fun lev h h0 h1 hm=>(lb2 lev h h0 h1 hm).1,nd,tall,fun h hm=>?_⟩
 ·have:=beq_iff_eq.1 hr.1
  rw [hw.atc (by omega) (by omega) (by omega) (by omega)] at this
  exact this
 ·have:=(rg2 lev h0 h1).1
  unfold mkB at this
  rw [decide_eq_false_iff_not,hw.atc (by omega) (by omega) (by omega) (by omega)] at this
  omega
 ·have hs:=(lb2 0 h (Int.le_refl 0) (by omega) hm).2
  have hb:=hw.mem hm
  have ht:=tall 0 h (Int.le_refl 0) (by omega) hm
  unfold stB ddB at hs
  rw [hw.atc (f:=2) (by omega) hb.2.2.2 (by omega) (by omega),hw.atc (f:=5) (by omega) hb.2.2.2 (by omega) (by omega),hw.atc (f:=4) (by omega) hb.2.2.2 (by omega) (by omega)] at hs
  simp only [Bool.and_eq_true,Bool.not_eq_true',decide_eq_false_iff_not,beq_iff_eq] at hs
  refine ⟨?_,hs.2.1,fun y y0 y1=>?_⟩
  ·have h1:=hs.1
   show ce T S H l (h % 4294967296) 2 % 2=0
   omega
  ·have h4:=mks_iff.1 hs.2.2 y y0 (by unfold ix at y1; omega)
   unfold stL mkB at h4
   rw [hw.atc (by omega) hb.2.2.2 (by omega) (by omega),Bool.and_eq_true,List.contains_iff_mem] at h4
   simp only [Bool.not_eq_true',decide_eq_false_iff_not] at h4
   refine ⟨?_,h4.2⟩
   have h5:=h4.1
   show ce T S H l (h % 4294967296) (6+y) / 4611686018427387904 % 2=0
   omega
theorem ren_out (F:Fin T S C H K V L l (lvs T S C H K V L l 0) es r xs mv) {v:Int} (h:v ∉ lvs T S C H K V L l 0):ren mv v=v:=ren_none (mget_none fun p hp e=>h (by rw [← e]; exact F.st.key p hp))
theorem new_ce (lf:Lf T S C H K V L l) (F:Fin T S C H K V L l (lvs T S C H K V L l 0) es r xs mv) {h:Int} (hm:h∈lvs T S C H K V L l 0):ce T S H r (ix (ren mv h)) 0=4 * ge (ren mv h)+1∧(∀ f,1≤f→f<6→ce T S H r (ix (ren mv h)) f=ce T S H l (ix h) f)∧∀ y,0≤y→y<H→ce T S H r (ix (ren mv h)) (6+y)=ren mv (ce T S H l (ix h) (6+y)):=by
 have hH:=lf.wd.r.h
 obtain ⟨l1,l2,l3⟩:=F.st.live h hm
 have hi:=l1.2.2.2
 refine ⟨?_,fun f f0 f1=>?_,fun y y0 y1=>?_⟩
 ·rw [F.cel _ 0 (by omega) hi.2 (by omega) (by omega),if_neg (by omega)]; exact l2
 ·rw [F.cel _ f (by omega) hi.2 (by omega) (by omega),if_neg (by omega)]; exact l3 f f0 (by omega)
 ·rw [F.cel _ (6+y) (by omega) hi.2 (by omega) (by omega),if_pos ⟨by omega,by omega⟩,l3 (6+y) (by omega) (by omega)]
theorem head_ce (lf:Lf T S C H K V L l) (F:Fin T S C H K V L l (lvs T S C H K V L l 0) es r xs mv):ce T S H r 0 0=1∧∀ y,0≤y→y<H→ce T S H r 0 (6+y)=ren mv (ce T S H l 0 (6+y)):=by
 have hC:=lf.wd.r.c
 have hH:=lf.wd.r.h
 have h0:∀ f,0≤f→f<6+H→ce T S H xs 0 f=ce T S H l 0 f:=fun f f0 f1=>F.st.out _ (by unfold cellI; omega)
 refine ⟨?_,fun y y0 y1=>?_⟩
 ·rw [F.cel 0 0 (by omega) (by omega) (by omega) (by omega),if_neg (by omega),h0 0 (by omega) (by omega)]; exact lf.one
 ·rw [F.cel 0 (6+y) (by omega) (by omega) (by omega) (by omega),h0 0 (by omega) (by omega),lf.one,if_pos ⟨by decide,by omega⟩,h0 (6+y) (by omega) (by omega)]
theorem ren_lo (o:Own T S C H K V L l (lvs T S C H K V L l 0) es) (F:Fin T S C H K V L l (lvs T S C H K V L l 0) es r xs mv) {v:Int} (h:v<9223372036854775808):ren mv v=v:=ren_out F fun hm=>by
 have:=(o.good v (List.mem_append.2 (.inl hm))).1.1
 omega
theorem ren_unm (F:Fin T S C H K V L l (lvs T S C H K V L l 0) es r xs mv) {v:Int} (h:v / 4611686018427387904 % 2=0):ren mv v / 4611686018427387904 % 2=0:=by
 by_cases hm:v∈lvs T S C H K V L l 0
 ·exact (F.st.live v hm).1.2.2.1
 ·rw [ren_out F hm]; exact h
theorem walk_map (o:Own T S C H K V L l (lvs T S C H K V L l 0) es) (lf:Lf T S C H K V L l) (F:Fin T S C H K V L l (lvs T S C H K V L l 0) es r xs mv) {lev:Int} (h0:0≤lev) (h1:lev<H):∀ (m:Nat) (j x:Int),0≤x→x<18446744073709551616→x / 4611686018427387904 % 2=0→(∀ p∈ylF C (nmF T S C H K V L l) plF (nxF T S C H K V L l lev) m j x,p.2∈lvs T S C H K V L l lev)→ylE C (nmF T S C H K V L l) (nxF T S C H K V L l lev) m j x<9223372036854775808 →
  (ylF C (nmF T S C H K V L r) plF (nxF T S C H K V L r lev) m j (ren mv x)).map (·.2)=((ylF C (nmF T S C H K V L l) plF (nxF T S C H K V L l lev) m j x).map (·.2)).map (ren mv)∧ylE C (nmF T S C H K V L r) (nxF T S C H K V L r lev) m j (ren mv x)=ylE C (nmF T S C H K V L l) (nxF T S C H K V L l lev) m j x
 | 0,j,x,x0,x1,hx,hy,he=>⟨rfl,ren_lo o F he⟩
 | m+1,j,x,x0,x1,hx,hy,he=>by
  have hC:=lf.wd.r.c
  have hH:=lf.wd.r.h
  rw [ylF] at hy
  rw [ylE] at he
  rw [ylF,ylE,ylF,ylE]
  by_cases q:j≤C
  ·rw [if_pos q] at hy he
   rw [if_pos q,if_pos q,if_pos q,if_pos q]
   by_cases hn:nmF T S C H K V L l x=true
   ·rw [if_pos hn] at hy he
    have hp:plF x=x:=by rw [plF_is x0 x1,if_neg (by omega)]
    have hm:=hy _ List.mem_cons_self
    rw [show ((j,plF x):Int × Int).2=x from hp] at hm
    have hm0:=lf.low lev x h0 h1 hm
    obtain ⟨g1,_,_⟩:=F.st.live x hm0
    obtain ⟨c0,c1,c2⟩:=new_ce lf F hm0
    have gi:=g1.2.2.2
    have hn2:nmF T S C H K V L r (ren mv x)=true:=by
     rw [nm_is (by have:=g1.1; omega) g1.2.1,decide_eq_true (show ren mv x≥9223372036854775808 from g1.1),decide_eq_true (show ren mv x % 4294967296≥1 from gi.1),decide_eq_true (show ren mv x % 4294967296≤C from gi.2)]
     rfl
    have hp2:plF (ren mv x)=ren mv x:=by rw [plF_is (by have:=g1.1; omega) g1.2.1,if_neg (by have:=g1.2.2.1; omega)]
    have hxm:=lf.wd.mem hm
    have ht:=lf.tall lev x h0 h1 hm
    have hst:=((lf.st x hm0).2.2 lev h0 ht.1).1
    have hnx:nxF T S C H K V L l lev x=ce T S H l (ix x) (6+lev):=lf.wd.atc (by omega) hxm.2.2.2 (by omega) (by omega)
    have hnx2:nxF T S C H K V L r lev (ren mv x)=ren mv (nxF T S C H K V L l lev x):=by
     rw [hnx,← c2 lev h0 h1]
     exact F.wd.atc (by unfold ix at gi; omega) gi.2 (by omega) (by omega)
    have hxu:=lf.wd.ceu (ix x) (6+lev)
    obtain ⟨ih1,ih2⟩:=walk_map o lf F h0 h1 m (j+1) (nxF T S C H K V L l lev x) (by rw [hnx]; exact hxu.1) (by rw [hnx]; exact hxu.2) (by rw [hnx]; exact hst) (fun p hp=>hy p (List.mem_cons_of_mem _ hp)) he
    rw [if_pos hn,if_pos hn,if_pos hn2,if_pos hn2,hnx2,List.map_cons,List.map_cons,List.map_cons,ih1,ih2,hp2,hp]
    exact ⟨rfl,rfl⟩
   ·rw [if_neg hn] at he
    have hx2:=ren_lo o F he
    have hn2:¬ nmF T S C H K V L r (ren mv x)=true:=by rw [hx2,nm_is x0 x1]; rw [nm_is x0 x1] at hn; exact hn
    rw [if_neg hn,if_neg hn,if_neg hn2,if_neg hn2]
    exact ⟨rfl,hx2⟩
  ·rw [if_neg q] at he
   rw [if_neg q,if_neg q,if_neg q,if_neg q]
   exact ⟨rfl,ren_lo o F he⟩
theorem lvs_map (o:Own T S C H K V L l (lvs T S C H K V L l 0) es) (lf:Lf T S C H K V L l) (F:Fin T S C H K V L l (lvs T S C H K V L l 0) es r xs mv) {lev:Int} (h0:0≤lev) (h1:lev<H):lvs T S C H K V L r lev=(lvs T S C H K V L l lev).map (ren mv)∧endF T S C H K V L r lev=endF T S C H K V L l lev:=by
 have hC:=lf.wd.r.c
 have hH:=lf.wd.r.h
 have hx:atF T S C H K V L l 0 (6+lev)=ce T S H l 0 (6+lev):=lf.wd.atc (by omega) (by omega) (by omega) (by omega)
 have hx2:atF T S C H K V L r 0 (6+lev)=ren mv (ce T S H l 0 (6+lev)):=by
  rw [← (head_ce lf F).2 lev h0 h1]
  exact F.wd.atc (by omega) (by omega) (by omega) (by omega)
 have hu:=lf.wd.ceu 0 (6+lev)
 have:=walk_map o lf F h0 h1 (C.toNat+1) 0 (ce T S H l 0 (6+lev)) hu.1 hu.2 (lf.hd lev h0 h1) (fun p hp=>by
  unfold lvs
  rw [lf.wd.lv h0 h1,hx]
  exact List.mem_map.2 ⟨p,hp,rfl⟩) (by have:=lf.fin lev h0 h1; unfold endF at this; rw [hx] at this; exact this)
 unfold lvs endF
 rw [F.wd.lv h0 h1,lf.wd.lv h0 h1,hx,hx2]
 exact this
end
end Go.Eng
namespace Go.Eng
open Go.Proofs Go.RowKit Go.Proofs.YtgbcnokeaaabfaaGreatW.PrintWords
set_option linter.unusedVariables false
set_option linter.unusedSimpArgs false
section
variable {T S C H K V L:Int} {l es r xs:List Int} {mv:List (Int × Int)}
theorem new_at (lf:Lf T S C H K V L l) (F:Fin T S C H K V L l (lvs T S C H K V L l 0) es r xs mv) {h:Int} (hm:h∈lvs T S C H K V L l 0):(∀ f,1≤f→f<6→atF T S C H K V L r (ren mv h % 4294967296) f=atF T S C H K V L l (h % 4294967296) f)∧tkB T S C H K V L r (ren mv h)=true∧∀ y,0≤y→y<H→atF T S C H K V L r (ren mv h % 4294967296) (6+y)=ren mv (ce T S H l (ix h) (6+y)):=by
 have hH:=lf.wd.r.h
 have hb:=lf.wd.mem hm
 have gi:1≤ren mv h % 4294967296∧ren mv h % 4294967296≤C:=(F.st.live h hm).1.2.2.2
 obtain ⟨c0,c1,c2⟩:=new_ce lf F hm
 refine ⟨fun f f0 f1=>?_,?_,fun y y0 y1=>?_⟩
 ·rw [F.wd.atc (by omega) gi.2 (by omega) (by omega),lf.wd.atc (by omega) hb.2.2.2 (by omega) (by omega)]
  exact c1 f f0 f1
 ·unfold tkB
  rw [F.wd.atc (by omega) gi.2 (by omega) (by omega)]
  exact beq_iff_eq.2 c0
 ·rw [F.wd.atc (by omega) gi.2 (by omega) (by omega)]
  exact c2 y y0 y1
theorem at4 (lf:Lf T S C H K V L l) {h:Int} (hm:h∈lvs T S C H K V L l 0):atF T S C H K V L l (h % 4294967296) 4=ce T S H l (ix h) 4:=by
 have hH:=lf.wd.r.h
 have hb:=lf.wd.mem hm
 exact lf.wd.atc (by omega) hb.2.2.2 (by omega) (by omega)
theorem new_mk (o:Own T S C H K V L l (lvs T S C H K V L l 0) es) (lf:Lf T S C H K V L l) (F:Fin T S C H K V L l (lvs T S C H K V L l 0) es r xs mv) {h y:Int} (hm:h∈lvs T S C H K V L l 0) (y0:0≤y) (y1:y<ce T S H l (ix h) 4):mkB T S C H K V L r (ren mv h % 4294967296) y=false∧ren mv h∈lvs T S C H K V L r y:=by
 have hH:=lf.wd.r.h
 have ht:=(lf.tall 0 h (Int.le_refl 0) (by omega) hm).2
 obtain ⟨s1,s2⟩:=(lf.st h hm).2.2 y y0 y1
 refine ⟨?_,by rw [(lvs_map o lf F y0 (by omega)).1]; exact List.mem_map.2 ⟨h,s2,rfl⟩⟩
 unfold mkB
 rw [(new_at lf F hm).2.2 y y0 (by omega),decide_eq_false_iff_not]
 have:=ren_unm F s1
 omega
theorem new_nd (o:Own T S C H K V L l (lvs T S C H K V L l 0) es) (lf:Lf T S C H K V L l) (F:Fin T S C H K V L l (lvs T S C H K V L l 0) es r xs mv) {h lev:Int} (h0:0≤lev) (h1:lev<H) (hm:h∈lvs T S C H K V L l lev):ndB T S C H K V L r (ren mv h) lev=true:=by
 have hH:=lf.wd.r.h
 have hm0:=lf.low lev h h0 h1 hm
 have ht:=lf.tall lev h h0 h1 hm
 obtain ⟨a1,a2,a3⟩:=new_at lf F hm0
 obtain ⟨m1,m2⟩:=new_mk o lf F hm0 h0 ht.1
 unfold ndB
 rw [a2,a1 4 (by decide) (by decide),at4 lf hm0,decide_eq_true ht.1,decide_eq_true ht.2,m1]
 simp only [Bool.true_and,Bool.false_eq_true,if_false]
 by_cases q:lev=0
 ·rw [q]; rfl
 ·have:=(new_mk o lf F hm0 (y:=lev - 1) (by omega) (by omega)).2
  rw [show (lev == 0)=false from beq_eq_false_iff_ne.2 q,Bool.false_or,List.contains_iff_mem]
  exact this
theorem new_rl (o:Own T S C H K V L l (lvs T S C H K V L l 0) es) (lf:Lf T S C H K V L l) (F:Fin T S C H K V L l (lvs T S C H K V L l 0) es r xs mv) {lev:Int} (h0:0≤lev) (h1:lev<H):∀ (ys:List Int) (f:Bool) (key:Int),(∀ h∈ys,h∈lvs T S C H K V L l lev)→rlB T S C H K V L l lev f key ys=true→rlB T S C H K V L r lev f key (ys.map (ren mv))=true
 | [],_,_,_,_=>rfl
 | h :: t,f,key,hy,hr=>by
  have hm:=hy h List.mem_cons_self
  have hm0:=lf.low lev h h0 h1 hm
  have e:=(new_at lf F hm0).1 1 (by decide) (by decide)
  rw [List.map_cons]
  unfold rlB at hr ⊢
  simp only [Bool.and_eq_true] at hr ⊢
  rw [e]
  exact ⟨hr.1,new_nd o lf F h0 h1 hm,new_rl o lf F h0 h1 t false _ (fun a ha=>hy a (List.mem_cons_of_mem _ ha)) hr.2.2⟩
theorem new_right (o:Own T S C H K V L l (lvs T S C H K V L l 0) es) (lf:Lf T S C H K V L l) (F:Fin T S C H K V L l (lvs T S C H K V L l 0) es r xs mv):RightB T S C H K V L r=true:=by
 have hC:=lf.wd.r.c
 have hH:=lf.wd.r.h
 obtain ⟨c0,c1⟩:=head_ce lf F
 unfold RightB
 rw [F.wd.atc (by omega) (by omega) (by omega) (by omega),c0,Bool.and_eq_true]
 refine ⟨rfl,mks_iff.2 fun lev h0 h1=>?_⟩
 have h1:lev<H:=by omega
 obtain ⟨e1,e2⟩:=lvs_map o lf F h0 h1
 unfold rgB
 rw [e1,e2,List.length_map,decide_eq_true (lf.len lev h0 h1),decide_eq_false (by have:=lf.fin lev h0 h1; omega),new_rl o lf F h0 h1 _ _ _ (fun h hh=>hh) (lf.rl lev h0 h1)]
 have:mkB T S C H K V L r 0 lev=false:=by
  unfold mkB
  rw [F.wd.atc (by omega) (by omega) (by omega) (by omega),c1 lev h0 h1,decide_eq_false_iff_not]
  have:=ren_unm F (lf.hd lev h0 h1)
  omega
 rw [this]
 rfl
theorem new_st (o:Own T S C H K V L l (lvs T S C H K V L l 0) es) (lf:Lf T S C H K V L l) (F:Fin T S C H K V L l (lvs T S C H K V L l 0) es r xs mv) {h:Int} (hm:h∈lvs T S C H K V L l 0):stB T S C H K V L r (ren mv h)=true:=by
 have hH:=lf.wd.r.h
 have hb:=lf.wd.mem hm
 obtain ⟨a1,a2,a3⟩:=new_at lf F hm
 obtain ⟨s1,s2,s3⟩:=lf.st h hm
 unfold stB ddB
 rw [a1 2 (by decide) (by decide),a1 5 (by decide) (by decide),a1 4 (by decide) (by decide),at4 lf hm,lf.wd.atc (by omega) hb.2.2.2 (by omega) (by omega),lf.wd.atc (by omega) hb.2.2.2 (by omega) (by omega),show ce T S H l (h % 4294967296) 2 % 2=0 from s1,show ce T S H l (h % 4294967296) 5=1 from s2,Bool.and_eq_true,Bool.and_eq_true]
 refine ⟨rfl,rfl,mks_iff.2 fun y y0 y1=>?_⟩
 have hu:=lf.wd.ceu (ix h) 4
 obtain ⟨m1,m2⟩:=new_mk o lf F hm (y:=y) y0 (by omega)
 unfold stL
 rw [m1,Bool.and_eq_true,List.contains_iff_mem]
 exact ⟨rfl,m2⟩
theorem new_rest (o:Own T S C H K V L l (lvs T S C H K V L l 0) es) (lf:Lf T S C H K V L l) (F:Fin T S C H K V L l (lvs T S C H K V L l 0) es r xs mv) (hz:rzB T S l=true):RestB T S C H K V L r []=true:=by
 have hC:=lf.wd.r.c
 have hH:=lf.wd.r.h
 have hTS:=lens lf.wd.r
 obtain ⟨e1,_⟩:=lvs_map o lf F (lev:=0) (Int.le_refl 0) (by omega)
 unfold RestB ownB
 rw [List.append_nil,new_right o lf F,e1]
 simp only [Bool.true_and,Bool.and_eq_true]
 refine ⟨?_,mks_iff.2 fun lev h0 h1=>?_,List.all_eq_true.2 fun g hg=>?_,mks_iff.2 fun i i0 i1=>?_⟩
 ·unfold rzB at hz ⊢
  refine mks_iff.2 fun y y0 y1=>?_
  rw [F.out y (by unfold cellI; omega)]
  exact mks_iff.1 hz y y0 y1
 ·have h1:lev<H:=by omega
  obtain ⟨e3,_⟩:=lvs_map o lf F h0 h1
  unfold lvB
  rw [e1,e3]
  refine List.all_eq_true.2 fun g hg=>?_
  obtain ⟨h,hh,rfl⟩:=List.mem_map.1 hg
  have hm0:=lf.low lev h h0 h1 hh
  rw [Bool.and_eq_true,List.contains_iff_mem]
  exact ⟨List.mem_map.2 ⟨h,hm0,rfl⟩,new_st o lf F hm0⟩
 ·obtain ⟨h,hh,rfl⟩:=List.mem_map.1 hg
  obtain ⟨g1,g2,g3,g4⟩:=(F.st.live h hh).1
  unfold goodB
  rw [nm_is (by omega) g2,decide_eq_true (show ren mv h≥9223372036854775808 from g1),decide_eq_true (show ren mv h % 4294967296≥1 from g4.1),decide_eq_true (show ren mv h % 4294967296≤C from g4.2),decide_eq_false (by omega),(new_at lf F hh).2.1]
  rfl
 ·have hnd:(((lvs T S C H K V L l 0).map (ren mv)).map ix).Nodup:=nd_map (by
   have:=o.nd
   rw [List.map_append,List.nodup_append] at this
   exact this.1) (F.st.inj)
  have hc1:=cnt_of_nd (i:=i) hnd
  have hc0:=cnt_le ((lvs T S C H K V L l 0).map (ren mv)) i
  have hs:ce T S H r i 0=ce T S H xs i 0:=by rw [F.cel i 0 (by omega) (by omega) (by omega) (by omega),if_neg (by omega)]
  unfold tmB
  rw [decide_eq_true hc1,Bool.true_and,F.wd.atc (by omega) (by omega) (by omega) (by omega),hs]
  by_cases q:ce T S H xs i 0 % 4=1
  ·obtain ⟨h,hh,e⟩:=F.st.tak i i0 (by omega) q
   have:cntI ((lvs T S C H K V L l 0).map (ren mv)) i≠0:=fun z=>cnt_zero.1 z (ren mv h) (List.mem_map.2 ⟨h,hh,rfl⟩) e
   rw [q,show cntI ((lvs T S C H K V L l 0).map (ren mv)) i=1 by omega]
   rfl
  ·have:cntI ((lvs T S C H K V L l 0).map (ren mv)) i=0:=cnt_zero.2 fun g hg e=>by
    obtain ⟨h,hh,rfl⟩:=List.mem_map.1 hg
    have:=(F.st.live h hh).2.1
    rw [e] at this
    omega
   rw [this,show (ce T S H xs i 0 % 4 == 1)=false from beq_eq_false_iff_ne.2 q]
   rfl
theorem ragain_l2 (hw:Wd T S C H K V L r):∀ (n k:Nat) (x:Int),0≤x→(C+1 - x).toNat=n→n * 10+300≤k→sr22_Cells.l2 k T S C H K V L [] x r=some (r,true):=by
 intro n
 induction n with
 | zero =>
  intro k x hx hm hk
  have hC:=hw.r.c
  obtain ⟨k,rfl⟩:∃ z,k=z+1:=⟨k - 1,by omega⟩
  rw [sr22_Cells.l2,if_neg (by omega)]
 | succ n ih =>
  intro k x hx hm hk
  have hC:=hw.r.c
  have hH:=hw.r.h
  have hu:=hw.rdu (cellI T S H x 0)
  obtain ⟨k,rfl⟩:∃ z,k=z+1:=⟨k - 1,by omega⟩
  have inner:∀ (m k:Nat) (y:Int),0≤y→(H - y).toNat=m→m+n * 10+301≤k→sr22_Cells.l3 k T S C H K V L [] x y r=some (r,true):=by
   intro m
   induction m with
   | zero =>
    intro k y hy hm' hk
    obtain ⟨k,rfl⟩:∃ z,k=z+1:=⟨k - 1,by omega⟩
    rw [sr22_Cells.l3,if_neg (by omega),wi64 (n:=x+1) (by omega) (by omega)]
    exact ih k (x+1) (by omega) (by omega) (by omega)
   | succ m ihm =>
    intro k y hy hm' hk
    obtain ⟨k,rfl⟩:∃ z,k=z+1:=⟨k - 1,by omega⟩
    obtain ⟨_,_,c0,c1⟩:=hw.cell (i:=x) (f:=6+y) hx (by omega) (by omega) (by omega)
    rw [sr22_Cells.l3,if_pos (by omega),wi64 (n:=6+y) (by omega) (by omega),wi64 (n:=y+1) (by omega) (by omega),hw.r22at hx (by omega) (by omega) (by omega)]
    simp only [Option.bind_some]
    have:=becomes_is (m:=[]) (by decide) (rd r (cellI T S H x (6+y))) (k:=k) (by omega)
    rw [List.map_nil] at this
    rw [this]
    simp only [Option.bind_some]
    rw [hw.r22with hx (by omega) (by omega) (by omega),show (mget [] (rd r (cellI T S H x (6+y)))).getD (rd r (cellI T S H x (6+y)))=rd r (cellI T S H x (6+y)) from rfl,set_rd c0 c1]
    exact ihm k (y+1) (by omega) (by omega) (by omega)
  rw [sr22_Cells.l2,if_pos (by omega),hw.r22at hx (by omega) (by omega) (by omega)]
  simp only [Option.bind_some]
  rw [ref_state hu.1,wi64 (n:=x+1) (by omega) (by omega)]
  simp only [Option.bind_some]
  by_cases q:rd r (cellI T S H x 0) % 4=1
  ·rw [if_pos q]
   exact inner H.toNat k 0 (Int.le_refl 0) (by omega) (by omega)
  ·rw [if_neg q]
   exact ih k (x+1) (by omega) (by omega) (by omega)
theorem ragain_l1 (hw:Wd T S C H K V L r) (hlow:∀ i j,1≤j→j<i→i≤C→ce T S H r i 0 % 4=1→ce T S H r j 0 % 4≠0):∀ (m k:Nat) (x:Int),1≤x→x+m=C+1→m+1300≤k→sr22_Cells.l1 k T S C H K V L x [] r=some (r,true)
 | 0,k,x,hx,hm,hk=>by
  have hC:=hw.r.c
  obtain ⟨k,rfl⟩:∃ z,k=z+1:=⟨k - 1,by omega⟩
  rw [sr22_Cells.l1,if_neg (by omega)]
  exact ragain_l2 hw (C+1).toNat k 0 (Int.le_refl 0) (by omega) (by omega)
 | m+1,k,x,hx,hm,hk=>by
  have hC:=hw.r.c
  have hH:=hw.r.h
  have hu:=hw.rdu (cellI T S H x 0)
  obtain ⟨k,rfl⟩:∃ z,k=z+1:=⟨k - 1,by omega⟩
  rw [sr22_Cells.l1,if_pos (by omega),hw.rlowest (b:=x) (by omega) (by omega),hw.r22at (by omega) (by omega) (by omega) (by omega),wi64 (n:=x+1) (by omega) (by omega)]
  simp only [Option.bind_some]
  rw [ref_state hu.1]
  simp only [Option.bind_some]
  by_cases q:rd r (cellI T S H x 0) % 4=1
  ·rw [q,if_pos rfl]
   simp only [Option.bind_some]
   rcases lw_spec (T:=T) (S:=S) (H:=H) (xs:=r) (x - 1).toNat 1 (Int.le_refl 1) with h0 | h0
   ·rw [h0.1,if_neg (by decide)]
    exact ragain_l1 hw hlow m k (x+1) (by omega) (by omega) (by omega)
   ·exact absurd h0.2.2.1 (hlow x _ h0.1 (by omega) (by omega) q)
  ·rw [if_neg q]
   simp only [Option.bind_some]
   rw [if_neg (by decide)]
   exact ragain_l1 hw hlow m k (x+1) (by omega) (by omega) (by omega)
theorem ragain (hw:Wd T S C H K V L r) {k:Nat} (hk:2900≤k) (hR:RestB T S C H K V L r []=true) (hl:r.length≤400) (hlow:∀ i j,1≤j→j<i→i≤C→ce T S H r i 0 % 4=1→ce T S H r j 0 % 4≠0):sr22_Cells.f k T S C H K V L r []=some (r,true):=by
 have hC:=hw.r.c
 have e:=hw.rRest hk (l2:=[]) (by decide) (fun e he=>absurd he List.not_mem_nil)
 rw [List.map_nil,hR] at e
 obtain ⟨k,rfl⟩:∃ z,k=z+1:=⟨k - 1,by omega⟩
 unfold sr22_Cells.f
 rw [e]
 simp only [Option.bind_some]
 rw [if_pos trivial,if_pos (by rw [List.length_nil]; omega),List.nil_append,sr22_Cells.l0,if_neg (by decide)]
 exact ragain_l1 hw hlow C.toNat k 1 (Int.le_refl 1) (by omega) (by omega)
end
end Go.Eng
namespace Go.Eng
open Go.Proofs Go.RowKit Go.Proofs.YtgbcnokeaaabfaaGreatW.PrintWords
set_option linter.unusedVariables false
set_option linter.unusedSimpArgs false
theorem with_l0 {m0:List S88} (hb:m0.length≤1000) (a b:Int):∀ (rest:List S88) (k i:Nat) (fl:Bool) (acc:List S88),m0.drop i=rest→rest.length<k→acc.length+rest.length+(if fl then 0 else 1)≤5000→∃ m:List S88,sr07_With.l0 k m0 a b fl (i:Int) acc=some m∧m.length≤acc.length+rest.length+(if fl then 0 else 1)
 | rest,0,i,fl,acc,_,h,_=>absurd h (by omega)
 | [],k+1,i,fl,acc,hd,_,ha=>by
  have h1:m0.length≤i:=List.drop_eq_nil_iff.1 hd
  rw [List.length_nil] at ha
  rw [sr07_With.l0,if_neg (by omega)]
  cases fl with
  | true=>exact ⟨acc,rfl,by simp⟩
  | false =>
   refine ⟨acc ++ [⟨a,b⟩],?_,by simp⟩
   rw [if_neg (by decide),if_pos (by omega)]
 | e :: rest,k+1,i,fl,acc,hd,hk,ha=>by
  obtain ⟨h1,h2,h3⟩:=drop_cons' hd
  have r1:rd_T88 m0 (i:Int)=e:=by unfold rd_T88; rw [Int.toNat_natCast,List.getD_eq_getElem?_getD,h2]; rfl
  rw [List.length_cons] at hk ha
  rw [sr07_With.l0,if_pos (by omega),if_pos (show 0≤(i:Int) by omega),r1,wrap_succ (by omega),List.length_cons]
  have go:∀ (fl':Bool) (acc':List S88),acc'.length+(if fl' then 0 else 1)≤acc.length+1+(if fl then 0 else 1)→acc'.length+rest.length+(if fl' then 0 else 1)≤5000→∃ m:List S88,sr07_With.l0 k m0 a b fl' ((i+1:Nat):Int) acc'=some m∧m.length≤acc.length+(rest.length+1)+(if fl then 0 else 1):=fun fl' acc' q1 q2=>by
   obtain ⟨m,e1,e2⟩:=with_l0 hb a b rest k (i+1) fl' acc' h3 (by omega) q2
   exact ⟨m,e1,by omega⟩
  by_cases q:e.f0≥a
  ·rw [if_pos q]
   simp only [Option.bind_some]
   cases fl with
   | false =>
    simp only [Bool.not_false,if_true]
    rw [if_pos (by omega),if_pos (show 0≤(i:Int) by omega)]
    by_cases q2:e.f0=a
    ·rw [if_pos q2]
     exact go true _ (by simp) (by simp at ha ⊢; omega)
    ·rw [if_neg q2,if_pos (by rw [List.length_append,List.length_singleton]; omega)]
     exact go true _ (by simp) (by simp at ha ⊢; omega)
   | true =>
    simp only [Bool.not_true,Bool.false_eq_true,if_false]
    rw [if_pos (show 0≤(i:Int) by omega)]
    by_cases q2:e.f0=a
    ·rw [if_pos q2]
     exact go true _ (by simp) (by simp at ha ⊢; omega)
    ·rw [if_neg q2,if_pos (by omega)]
     exact go true _ (by simp) (by simp at ha ⊢; omega)
  ·rw [if_neg q]
   simp only [Option.bind_some,Bool.false_eq_true,if_false]
   rw [if_pos (show 0≤(i:Int) by omega),if_neg (show ¬ e.f0=a by omega),if_pos (by omega)]
   exact go fl _ (by simp) (by simp at ha ⊢; omega)
theorem with_tot {m0:List S88} (hb:m0.length≤900) (a b:Int) {k:Nat} (hk:901≤k):∃ m,sr07_With.f k m0 a b=some m∧m.length≤m0.length+1:=by
 obtain ⟨m,e1,e2⟩:=with_l0 (by omega) a b m0 k 0 false [] rfl (by omega) (by simp; omega)
 refine ⟨m,e1,?_⟩
 rw [List.length_nil] at e2
 simp only [Bool.false_eq_true,if_false] at e2
 omega
theorem same_isk {l:List Int} (hb:l.length≤1000) {k:Nat} (hk:l.length<k):sr03_Same.f k l l=some true:=by
 unfold sr03_Same.f
 rw [if_pos rfl]
 exact same_l0 hb l.length k 0 (by omega) hk
theorem equal88_l0 {m:List S88} (hb:m.length≤1000):∀ (d k i:Nat),m.length=i+d→d<k→sr07_Equal.l0 k m m (i:Int)=some true
 | 0,0,i,_,h=>absurd h (by decide)
 | d+1,0,i,_,h=>absurd h (by omega)
 | 0,k+1,i,hl,_=>by rw [sr07_Equal.l0,if_neg (by omega)]
 | d+1,k+1,i,hl,h=>by
  rw [sr07_Equal.l0,if_pos (by omega),if_pos (by omega),if_pos (by omega),if_pos (by simp),wrap_succ (by omega)]
  exact equal88_l0 hb d k (i+1) (by omega) (by omega)
theorem equal88 {m:List S88} (hb:m.length≤1000):sr07_Equal.f 3000 m m=some true:=by
 unfold sr07_Equal.f
 rw [if_pos rfl]
 exact equal88_l0 hb m.length 3000 0 (by omega) (by omega)
section
variable {T S C H K V L:Int} {l es r xs:List Int} {mv:List (Int × Int)}
theorem map_l0 (lf:Lf T S C H K V L l) (F:Fin T S C H K V L l (lvs T S C H K V L l 0) es r xs mv) {hs:List Int} (hb:hs.length≤100) (hm:∀ h∈hs,h∈lvs T S C H K V L l 0):∀ (rest:List Int) (k i:Nat) (acc:List S88),hs.drop i=rest→rest.length+950≤k→acc.length+rest.length≤200→∃ m:List S88,m.length≤200∧sr21_Map.l0 k T S C H K V L l hs (i:Int) acc=some m∧sr21_Map.l0 k T S C H K V L r (hs.map (ren mv)) (i:Int) acc=some m
 | rest,0,i,acc,_,h,_=>absurd h (by omega)
 | [],k+1,i,acc,hd,_,ha=>by
  have h1:hs.length≤i:=List.drop_eq_nil_iff.1 hd
  exact ⟨acc,by omega,by rw [sr21_Map.l0,if_neg (by omega)],by rw [sr21_Map.l0,if_neg (by rw [List.length_map]; omega)]⟩
 | h :: rest,k+1,i,acc,hd,hk,ha=>by
  have hH:=lf.wd.r.h
  obtain ⟨h1,h2,h3⟩:=drop_cons' hd
  have hh:=hm h (List.mem_of_getElem? h2)
  have hwm:=lf.wd.mem hh
  have hO:=(F.st.live h hh).1
  have hi:1≤ren mv h % 4294967296∧ren mv h % 4294967296≤C:=hO.2.2.2
  have r1:rd hs (i:Int)=h:=by unfold rd; rw [Int.toNat_natCast,List.getD_eq_getElem?_getD,h2]; rfl
  have r2:rd (hs.map (ren mv)) (i:Int)=ren mv h:=by unfold rd; rw [Int.toNat_natCast,List.getD_eq_getElem?_getD,List.getElem?_map,h2]; rfl
  have na:=(new_at lf F hh).1
  have hu2:=lf.wd.au (i:=h % 4294967296) (f:=2) (by omega) hwm.2.2.2 (by omega) (by omega)
  rw [List.length_cons] at hk ha
  rw [sr21_Map.l0,if_pos (by omega),if_pos (by omega),r1,ref_index hwm.1,sr21_Map.l0,if_pos (by rw [List.length_map]; omega),if_pos (by omega),r2,ref_index (by have:=hO.1; omega),wrap_succ (by omega)]
  simp only [Option.bind_some]
  rw [lf.wd.rat (f:=2) (by omega) hwm.2.2.2 (by omega) (by omega),F.wd.rat (f:=2) (by omega) hi.2 (by omega) (by omega),na 2 (by decide) (by decide)]
  simp only [Option.bind_some]
  rw [ref_dead hu2.1]
  simp only [Option.bind_some]
  by_cases q:atF T S C H K V L l (h % 4294967296) 2 % 2=1
  ·rw [decide_eq_true q,if_pos rfl,if_pos rfl]
   exact map_l0 lf F hb hm rest k (i+1) acc h3 (by omega) (by omega)
  ·rw [decide_eq_false q,if_neg (by decide),if_neg (by decide),lf.wd.rat (f:=1) (by omega) hwm.2.2.2 (by omega) (by omega),F.wd.rat (f:=1) (by omega) hi.2 (by omega) (by omega),na 1 (by decide) (by decide)]
   simp only [Option.bind_some]
   show ∃ m:List S88,m.length≤200∧((some _:Option Int).bind fun t100_=>_)=some m∧((some _:Option Int).bind fun t100_=>_)=some m
   simp only [Option.bind_some]
   obtain ⟨m,e1,e2⟩:=with_tot (m0:=acc) (by omega) (atF T S C H K V L l (h % 4294967296) 1) (IntKind.wrap .u64 (Int.tdiv (atF T S C H K V L l (h % 4294967296) 2) 2)) (k:=k) (by omega)
   rw [e1]
   simp only [Option.bind_some]
   exact map_l0 lf F hb hm rest k (i+1) m h3 (by omega) (by omega)
theorem map_is (o:Own T S C H K V L l (lvs T S C H K V L l 0) es) (lf:Lf T S C H K V L l) (F:Fin T S C H K V L l (lvs T S C H K V L l 0) es r xs mv):∃ m:List S88,m.length≤200∧sr21_Map.f 3000 T S C H K V L l=some m∧sr21_Map.f 3000 T S C H K V L r=some m:=by
 have hC:=lf.wd.r.c
 have hH:=lf.wd.r.h
 have hlen:=lf.wd.len_ (lev:=0) (Int.le_refl 0) (by omega)
 obtain ⟨m,e0,e1,e2⟩:=map_l0 lf F (hs:=lvs T S C H K V L l 0) (by omega) (fun h hh=>hh) (lvs T S C H K V L l 0) 3000 0 [] rfl (by omega) (by simp; omega)
 rw [show ((0:Nat):Int)=0 from rfl] at e1 e2
 refine ⟨m,e0,?_,?_⟩
 ·unfold sr21_Map.f
  rw [lf.wd.rlevel (by decide) (Int.le_refl 0) (by omega)]
  simp only [Option.bind_some]
  exact e1
 ·unfold sr21_Map.f
  rw [F.wd.rlevel (by decide) (Int.le_refl 0) (by omega),(lvs_map o lf F (Int.le_refl 0) (by omega)).1]
  simp only [Option.bind_some]
  exact e2
theorem keeps_l0 (hw:Wd T S C H K V L r) (hlow:∀ i j,1≤j→j<i→i≤C→ce T S H r i 0 % 4=1→ce T S H r j 0 % 4≠0):∀ (m k:Nat) (x:Int) (fl:Bool),1≤x→x+m=C+1→(fl=true→∃ j,1≤j∧j<x∧ce T S H r j 0 % 4=0)→m<k→(∀ k',k'+m+1=k→(pack_Cells.f k' T S C H K V L r []).bind (fun (t183_,t184_)=>((if t184_=true then (sr03_Same.f k' t183_ r).bind fun t194_=>some t194_ else some false):Option Bool).bind fun j191_=>some j191_)=some true)→stepstonelaw22_PackKeeps.l0 k T S C H K V L r fl x=some true
 | m,0,x,fl,_,_,_,h,_=>absurd h (by omega)
 | 0,k+1,x,fl,hx,hm,hf,hk,hz=>by
  rw [stepstonelaw22_PackKeeps.l0,if_neg (by omega)]
  exact hz k (by omega)
 | m+1,k+1,x,fl,hx,hm,hf,hk,hz=>by
  have hC:=hw.r.c
  have hH:=hw.r.h
  obtain ⟨_,e1,c0,c1⟩:=hw.cell (i:=x) (f:=0) (by omega) (by omega) (by omega) (by omega)
  have hu:=hw.rdu (cellI T S H x 0)
  rw [stepstonelaw22_PackKeeps.l0,if_pos (by omega),e1,wi64 (n:=x+1) (by omega) (by omega)]
  simp only [Option.bind_some]
  rw [if_pos c0,if_pos c1,ref_state hu.1]
  simp only [Option.bind_some]
  have step:∀ fl',(fl'=true→∃ j,1≤j∧j<x+1∧ce T S H r j 0 % 4=0)→stepstonelaw22_PackKeeps.l0 k T S C H K V L r fl' (x+1)=some true:=fun fl' h=>keeps_l0 hw hlow m k (x+1) fl' (by omega) (by omega) h (by omega) (fun k' e=>hz k' (by omega))
  have fin:((if fl=true then stepstonelaw22_PackKeeps.l0 k T S C H K V L r true (x+1) else stepstonelaw22_PackKeeps.l0 k T S C H K V L r (rd r (cellI T S H x 0) % 4 == 0) (x+1)))=some true:=by
   cases fl with
   | true =>
    rw [if_pos rfl]
    obtain ⟨j,j0,j1,j2⟩:=hf rfl
    exact step true (fun _=>⟨j,j0,by omega,j2⟩)
   | false =>
    rw [if_neg (by decide)]
    exact step _ (fun h=>⟨x,hx,by omega,beq_iff_eq.1 h⟩)
  by_cases q:rd r (cellI T S H x 0) % 4=1
  ·rw [if_pos q]
   simp only [Option.bind_some]
   have:fl=false:=by
    cases fl with
    | false=>rfl
    | true =>
     obtain ⟨j,j0,j1,j2⟩:=hf rfl
     exact absurd j2 (hlow x j j0 j1 (by omega) q)
   subst this
   rw [if_neg (by decide)]
   exact fin
  ·rw [if_neg q]
   simp only [Option.bind_some]
   rw [if_neg (by decide)]
   exact fin
end
end Go.Eng
namespace Go.Eng
open Go.Proofs Go.RowKit Go.Proofs.YtgbcnokeaaabfaaGreatW.PrintWords
set_option linter.unusedVariables false
set_option linter.unusedSimpArgs false
section
variable {T S C H K V L:Int} {l:List Int}
theorem both_fin (hw:Wd T S C H K V L l) (hl:l.length≤400) {l2:List S47} (hb:l2.length≤40) (hue:∀ e∈l2,0≤e.f0∧e.f0<18446744073709551616) (hR:RestB T S C H K V L l (l2.map (·.f0))=true) {k:Nat} (hk:2900≤k):∃ r xs mv,Own T S C H K V L l (lvs T S C H K V L l 0) (l2.map (·.f0))∧Fin T S C H K V L l (lvs T S C H K V L l 0) (l2.map (·.f0)) r xs mv∧r.length=l.length∧pack_Cells.f k T S C H K V L l [l2.map nw]=some (r,true):=by
 obtain ⟨r,xs,mv,F,e⟩:=Cells_fin hw hk hl (e2:=l2) (by omega) hue hR
 have hf:([l2.map nw]:List (List S53)).flatten=l2.map nw:=by rw [List.flatten_cons,List.flatten_nil,List.append_nil]
 obtain ⟨r',b,hr,e1,e2,_⟩:=Cells_is (T:=T) (S:=S) (C:=C) (H:=H) (K:=K) (V:=V) (L:=L) hk hw.u hl (ll:=[l2.map nw]) (e2:=l2) (by simp) (by rw [hf,List.length_map]; omega) (by rw [hf]; exact nw_f0 l2) hue
 rw [e] at e2
 injection e2 with e2
 injection e2 with e3 e4
 subst e3 e4
 refine ⟨r,xs,mv,Own.of hw (fun a ha=>by obtain ⟨e,he,rfl⟩:=List.mem_map.1 ha; exact hue e he) hR,F,?_,e1⟩
 have h1:=F.wd.len
 have h2:=hw.len
 omega
theorem packKeeps_is (hu:∀ x∈l,0≤x∧x<18446744073709551616) {l2:List S47} (hue:∀ e∈l2,0≤e.f0∧e.f0<18446744073709551616) (at_:Int):stepstonelaw22_PackKeeps.f 3000 T S C H K V L l l2 at_=some true:=by
 unfold stepstonelaw22_PackKeeps.f
 by_cases q1:C > 20
 ·rw [if_pos q1]; rfl
 rw [if_neg q1]
 by_cases q2:((l.length:Int):Int) > 400
 ·rw [if_pos q2]; rfl
 rw [if_neg q2]
 by_cases q3:((l2.length:Int):Int) > 40
 ·rw [if_pos q3]; rfl
 rw [if_neg q3]
 by_cases hW:R7 T S C H K V L∧(l.length:Int)=lenI T S C H
 ·have hw:Wd T S C H K V L l:=⟨hW.1,hW.2,hu⟩
  have hC:=hw.r.c
  have hH:=hw.r.h
  rw [hw.rRest (k:=3000) (by decide) (by omega) hue]
  simp only [Option.bind_some]
  cases hR:RestB T S C H K V L l (l2.map (·.f0)) with
  | false=>rfl
  | true =>
   obtain ⟨r,xs,mv,o,F,hlen,e1⟩:=both_fin hw (by omega) (by omega) hue hR (k:=3000) (by decide)
   have lf:=Lf.of hw hR
   have hz:rzB T S l=true:=by
    unfold RestB at hR
    simp only [Bool.and_eq_true] at hR
    exact hR.2.1
   have hR2:=new_rest o lf F hz
   have hlow:∀ i j,1≤j→j<i→i≤C→ce T S H r i 0 % 4=1→ce T S H r j 0 % 4≠0:=fun i j j0 ji iC=>by
    rw [F.cel i 0 (by omega) (by omega) (by omega) (by omega),if_neg (by omega),F.cel j 0 (by omega) (by omega) (by omega) (by omega),if_neg (by omega)]
    exact F.st.low i j j0 ji (by omega)
   obtain ⟨m,hm,m1,m2⟩:=map_is o lf F
   have e2:=F.wd.rRest (k:=3000) (by decide) (l2:=[]) (by decide) (fun e he=>absurd he List.not_mem_nil)
   rw [List.map_nil,hR2] at e2
   rw [Bool.not_true,if_neg (by decide),news_is (by omega)]
   simp only [Option.bind_some]
   rw [e1]
   simp only [Option.bind_some]
   rw [if_pos trivial,e2]
   simp only [Option.bind_some]
   rw [if_pos trivial,m1,m2]
   simp only [Option.bind_some]
   rw [equal88 (by omega)]
   simp only [Option.bind_some,Bool.not_true,Bool.false_eq_true,if_false]
   refine keeps_l0 F.wd hlow C.toNat 3000 1 false (Int.le_refl 1) (by omega) (fun h=>Bool.noConfusion h) (by omega) (fun k' hk'=>?_)
   have hk2:2900≤k':=by omega
   obtain ⟨r',b,hr,e3,e4,_⟩:=Cells_is (T:=T) (S:=S) (C:=C) (H:=H) (K:=K) (V:=V) (L:=L) hk2 F.wd.u (by omega) (ll:=[]) (e2:=[]) (by simp) (by simp) rfl (fun e he=>absurd he List.not_mem_nil)
   rw [ragain F.wd hk2 hR2 (by omega) hlow] at e4
   injection e4 with e4
   injection e4 with e5 e6
   subst e5 e6
   rw [e3]
   simp only [Option.bind_some]
   rw [if_pos trivial,same_isk (by omega) (by omega)]
   rfl
 ·rw [(noRest hW [] l2 3000).2]
  rfl
end
theorem packKeeps_con (T S C H K V L:Int) (A1:Option Addr) (c1:Nat) (l:List Int) (A2:Option Addr) (c2:Nat) (l2:List S47) (at_:Int) (hw:l.length≤maxLen∧∀ x∈l,(Lit.int .u64 x).wf=true) (he:∀ e∈l2,(Lit.int .u64 e.f0).wf=true) (w0:World) (Hs:List Nat):Con Tryz.prog 4 #[.agg #[.int .i64 T,.int .i64 S,.int .i64 C,.int .i64 H,.int .i64 K,.int .i64 V,.int .i64 L],.slice A1 l.length c1,.agg #[.slice A2 l2.length c2,.int .i64 at_]] w0 Hs [.f (KC (Kd.int .u64) A1 c1 l),.f (KC k47 A2 c2 l2)] (fun X=>X (.bool true) []) :=
 stepstonelaw22_PackKeeps_con 3000 T S C H K V L A1 c1 l A2 c2 l2 at_ true (packKeeps_is (u64_of hw) (fun e h=>u64w (he e h)) at_) w0 Hs
end Go.Eng
