/-
Own text, put together by an own program (shake.py) out of this claim's texts: what its theorem needs of them.
-/
import Derived.Test.YtgbcnokeaaabfaaGreatA2
namespace Go.Eng
open Go.RowKit Go.Proofs.YtgbcnokeaaabfaaGreatW.PrintWords
set_option linter.unusedVariables false
set_option linter.unusedSimpArgs false
def KC {α:Type} (d:Kd α) (A:Option Addr) (c:Nat) (l:List α):World→Prop:=fun w=>Kd.C d w A l.length l∧l.length≤c
theorem C_stab {α:Type} {d:Kd α} {w:World} {A:Option Addr} {c:Nat} {l:List α} (h:Kd.C d w A l.length l) (hc:l.length≤c):Stab [] w (KC d A c l):=fun w' ha=>⟨Kd.C_below h ha.below,hc⟩
theorem KC_nil {α:Type} (d:Kd α) (w:World):KC d none 0 ([]:List α) w:=⟨Kd.C_nil d w,Nat.le_refl _⟩
section
variable {P:Program} {W:Code→(Exit→Act→World→Prop)→Act→World→Prop} {n:Sz} {w0:World} {I:Ix} {F:FL} {L:HL} {o:Oper} {Q:Exit→Act→World→Prop}
theorem Tri.fact {w:World} (h:Tri w0 I w L) (i:Nat) {φ:World→Prop} (hi:L[i]?=some (.f φ)):φ w:=(h.facts φ (List.mem_of_getElem? hi)).here
theorem ids_facts (fs:List (World→Prop)):ids (fs.map Ent.f)=[]:=by
 induction fs with
 | nil=>rfl
 | cons ψ r ih=>rw [List.map_cons,ids_f]; exact ih
theorem calls_of_con {f:FuncId} {args:Array Value} {w:World} {L:HL} {C:(Value→HL→Prop)→Prop} (h:Con P f args w [] L C) (ht:Tri w ⟨ids L,[]⟩ w L) {R:Value→HL→Prop} (hC:C R):Calls P f args w fun e w'=>∃ v L',e = .returned v∧R v L'∧Tri w ⟨ids L,[]⟩ w' L':=h ht R hC
theorem v_ldf {t:TypeId} {x:Operand} {d:TypeDesc} {ad:Addr} {v:Value} {φ:World→Prop} (i:Nat) (ho:o.op = .load t x) (ht:P.underlying t=some d) (hd:notAgg d=true) (hx:ev F x=some (.pointer (some ad)))
  (hL:L[i]?=some (.f φ)) (hc:∀ w,φ w→w.cell? ad=some v):OpV P n w0 I o F L v:=by
 intro a w hf hs
 have h1:w.cell? ad=some v:=hc w (hs.fact φ (List.mem_of_getElem? hL))
 simp only [execOp,ho,hf.ev hx,Instr.loadAt,Instr.sureAddr,loadVar,Sem.run_bind,Sem.run_pure,Result.andThen_ok,run_isAgg0 ht hd,if_false,Bool.false_eq_true,run_load h1]
theorem v_ldAf {t:TypeId} {x:Operand} {d:TypeDesc} {ad:Addr} {m:Nat} {φ:World→Prop} (vs:List Value) (i:Nat) (ho:o.op = .load t x) (ht:P.underlying t=some d) (hd:notAgg d=false) (hm:(P.info? t).map (·.size)=some m) (hx:ev F x=some (.pointer (some ad)))
  (hL:L[i]?=some (.f φ)) (hl:vs.length=m) (hc:∀ w,φ w→∀ j v,vs[j]?=some v→w.cell? (ad.add j)=some v):OpV P n w0 I o F L (.agg vs.toArray):=by
 intro a w hf hs
 have h2:=run_loadCells_list (P:=P) w ad vs (hc w (hs.fact φ (List.mem_of_getElem? hL)))
 rw [hl] at h2
 simp only [execOp,ho,hf.ev hx,Instr.loadAt,Instr.sureAddr,loadVar,Sem.run_bind,Sem.run_pure,Result.andThen_ok,run_isAgg1 ht hd,if_true,run_size hm,h2]
theorem v_ldr {t:TypeId} {x:Operand} {d:TypeDesc} {b off:Nat} {cs:Array Value} {e:TypeId} {fz:Nat × Nat} {v:Value} (i:Nat) (ho:o.op = .load t x) (ht:P.underlying t=some d) (hd:notAgg d=true) (hx:ev F x=some (.pointer (some ⟨b,off,none⟩)))
  (hL:L[i]?=some (.f (fun w=>w.heap[b]?=some (.cells cs e fz)))) (hc:cs[off]?=some v):OpV P n w0 I o F L v :=
 v_ldf i ho ht hd hx hL (fun w hw=>by simp [World.cell?,hw,hc])
theorem v_ldAr {t:TypeId} {x:Operand} {d:TypeDesc} {b off m:Nat} {cs:Array Value} {e:TypeId} {fz:Nat × Nat} (vs:List Value) (i:Nat) (ho:o.op = .load t x) (ht:P.underlying t=some d) (hd:notAgg d=false) (hm:(P.info? t).map (·.size)=some m) (hx:ev F x=some (.pointer (some ⟨b,off,none⟩)))
  (hL:L[i]?=some (.f (fun w=>w.heap[b]?=some (.cells cs e fz)))) (hl:vs.length=m) (hc:(cs.toList.drop off).take m=vs):OpV P n w0 I o F L (.agg vs.toArray) :=
 v_ldAf vs i ho ht hd hm hx hL hl (fun w hw j v hv=>by
  have h1:w.cell? ⟨b,off+j,none⟩=some v:=by
   rw [← hc,List.getElem?_take] at hv
   split at hv
   ·rw [List.getElem?_drop] at hv
    have hv':cs[off+j]?=some v:=by simpa using hv
    simp [World.cell?,hw,hv']
   ·cases hv
  unfold Addr.add
  split
  ·rename_i h0; subst h0; simpa using h1
  ·exact h1)
theorem e_bslice {t e:TypeId} {len m:Nat} {ps:Array (Nat × Operand)} {us:List Value} {d:Nat} (cs:Array Value) (z:Value) (ho:o.op = .buildSlice t len ps) (hd:o.dst=some d) (hn:Nat.blt d n.n=true) (ht:P.underlying t=some (.slice e)) (hm:(P.info? e).map (·.size)=some m) (hz:(P.info? e).bind (·.zero)=some z) (hlm:0<len * m∧len * m≤2 ^ 24)
  (hu:evs F (ps.toList.map (·.2))=some us) (hc:Instr.fill (fun i=>some (i * m,m)) ((Array.range (len * m)).map (z.cells[· % z.cells.size]!)) ((ps.toList.map (·.1)).zip us)=some cs) :
  OpE P n w0 I o F L (fun X=>∀ b,X ((d,.slice (some ⟨b,0,none⟩) len len) :: F) (.b b (.cells cs e (0,0)) :: L)):=by
 intro X hX a w hf htr K Q np hK
 obtain ⟨i,hi,hzz⟩:=Option.bind_eq_some_iff.1 hz
 have e1:(ps.map fun (i,x)=>(i,a.eval x)).toList=(ps.toList.map (·.1)).zip us:=by
  rw [← hf.evs hu]
  simp [List.zip_map',Function.comp_def]
 have hzv:(zeroValue e).run P w = .ok z w:=by
  unfold zeroValue typeInfo
  simp [program,Sem.run,hi,hzz]
 have hr:(execOp a.eval o).run P w = .ok (.value (.slice (some ⟨w.heap.size,0,none⟩) len len)) { w with heap:=w.heap.push (.cells cs e) }:=by
  have h1:¬ (len * m > 2 ^ 24):=by omega
  have h2:¬ (len * m=0):=by omega
  simp only [execOp,ho,Instr.buildSlice,Sem.run_bind,Sem.run_pure,Result.andThen_ok,run_underlying ht,run_size hm,h1,h2,if_false,hzv,e1,hc]
  simp [newRow,newObj,Sem.run]
 unfold Oper.wp
 rw [hr,Oper.upon_value,hd]
 exact hK _ _ (hX w.heap.size) _ _ (hf.put (blt_lt hn) _) (htr.alloc _)
theorem e_app_nil {t e:TypeId} {c:Call} {x y:Operand} {z:Value} {m bytes k cp d i:Nat} {b off:Nat} {cs news:List Value} {ee:TypeId} (ho:o.op = .call c) (hc:c.callee = .builtin .append) (hca:c.args=#[x,y]) (hct:c.argTypes=#[t,t]) (hd:o.dst=some d) (hn:Nat.blt d n.n=true)
  (ht:P.underlying t=some (.slice e)) (hi:(P.info? e).map (fun i=>(i.zero,i.size,i.bytes))=some (some z,m,bytes)) (hz:z.cells.size=m) (hm:0<m)
  (hx:ev F x=some (.slice none 0 0)) (hy:ev F y=some (.slice (some ⟨b,off,none⟩) k cp)) (hL:L[i]?=some (.b b (.cells cs.toArray ee (0,0)))) (hnews:(cs.drop off).take (k * m)=news) (hnl:news.length=k * m) (hone:∀ u∈news,u.oneCell'=true) (hk:0<k) (hkb:k * bytes≤140737488355328) (hkm:k≤maxLen) :
  OpE P n w0 I o F L (fun X=>∀ g cap cur,k≤cap→cap≤maxLen→cur.size=cap * m→cur.toList.take (k * m)=news→X ((d,.slice (some ⟨g,0,none⟩) k cap) :: F) (.b g (.cells cur e (0,0)) :: L)):=by
 intro X hX a w hf htr K Q np hK
 obtain ⟨inf,hinf,hz'⟩:=Option.map_eq_some_iff.1 hi
 simp only [Prod.mk.injEq] at hz'
 have hown:w.ownsRow w.heap.size e m (.slice none 0 0) 0 []:=⟨by simp,.inl ⟨rfl,rfl⟩⟩
 have hcell:∀ j u,news[j]?=some u→w.cell? ((⟨b,off,none⟩:Addr).add j)=some u:=by
  intro j u hu
  have h1:w.cell? ⟨b,off+j,none⟩=some u:=by
   rw [htr.toWS.cell hL]
   rw [← hnews,List.getElem?_take] at hu
   split at hu
   ·rw [List.getElem?_drop] at hu; simpa using hu
   ·cases hu
  unfold Addr.add
  split
  ·rename_i h0; subst h0; simpa using h1
  ·exact h1
 obtain ⟨v',w',hrun,hrow,hgrow,hnil⟩:=run_append_own (P:=P) w w.heap.size t o.type e inf z m bytes ht hinf hz'.1 hz'.2.1 hz'.2.2 hz hm (.slice none 0 0) 0 [] hown ⟨b,off,none⟩ k cp news hnl hcell hone (by omega) (by rw [Nat.zero_add]; exact hkb) (Nat.le_refl _)
 have hr:(execOp a.eval o).run P w = .ok (.value v') w':=by
  simp only [execOp,ho,resolve,hc,hca,hct,Sem.run_bind,Sem.run_pure,Result.andThen_ok,invoke,builtin,List.map_toArray,List.map_cons,List.map_nil,hf.ev hx,hf.ev hy,hrun]
 obtain ⟨hl,hcase⟩:=hrow
 rcases hcase with ⟨rfl,h0⟩ | ⟨g,cap,cur,rfl,hg,hgh,hnc,hcm,hsz,htk⟩
 ·omega
 ·unfold Oper.wp
  rw [hr,Oper.upon_value,hd]
  simp only [Nat.zero_add,List.nil_append] at hnc htk ⊢
  refine hK _ _ (hX g cap cur hnc hcm hsz htk) _ _ (hf.put (blt_lt hn) _) ?_
  have hbel:Below w.heap.size w w':=⟨hgrow.os,hgrow.tape,hgrow.output,hgrow.size,fun j hj=>hgrow.block j hj (by simp [Value.ownBlock])⟩
  have h1:=htr.of_below hbel
  have hgn:g ∉ ids L:=fun hm'=>by have:=htr.lt hm'; omega
  refine { toAgree:=h1.toAgree,at_:=fun j o' hp=>?_,own:=fun j hj=>?_,nodup:=by rw [ids_b,List.nodup_cons]; exact ⟨hgn,h1.nodup⟩,hol:=h1.hol,facts:=fun φ hφ=>?_ }
  ·rcases List.mem_cons.1 hp with hp | hp
   ·injection hp with e1 e2; subst e1 e2; exact hgh
   ·exact h1.at_ j o' hp
  ·rw [ids_b] at hj
   rcases List.mem_cons.1 hj with rfl | hj
   ·have:=htr.size; exact .inr (by omega)
   ·exact h1.own j hj
  ·have hφ':Ent.f φ∈L:=by
    rcases List.mem_cons.1 hφ with hφ | hφ
    ·cases hφ
    ·exact hφ
   refine (htr.facts φ hφ').on (Agree.of_below hbel) (fun x hx hlt=>?_)
   rw [ids_b] at hx
   rcases List.mem_append.1 hx with hx | hx
   ·exact List.mem_append_left _ hx
   ·rcases List.mem_cons.1 hx with rfl | hx
    ·omega
    ·exact List.mem_append_right _ hx
theorem Tri.swap {w w':World} (h:Tri w0 I w L) {i g g':Nat} {u u':Obj} (hi:L[i]?=some (.b g u)) (hb:w.grownBy w' (some g)) (hg':w'.heap[g']?=some u') (hw:g'=g∨w.heap.size≤g'):Tri w0 I w' (L.set i (.b g' u')):=by
 have hgm:g∈ids L:=mem_ids.2 ⟨u,List.mem_of_getElem? hi⟩
 -- first: the old block as_ it is now
 have hglt:=h.lt hgm
 obtain ⟨ug,hug⟩:∃ ug,w'.heap[g]?=some ug:=⟨w'.heap[g]'(by have:=hb.size; omega),Array.getElem?_eq_getElem _⟩
 have h1:Tri w0 I w' (L.set i (.b g ug)):=by
  refine { os:=hb.os.trans h.os,tape:=hb.tape.trans h.tape,output:=hb.output.trans h.output,size:=Nat.le_trans h.size hb.size,frame:=fun b hb' hI=>?_,at_:=fun k o' hp=>?_,own:=by rw [ids_set hi]; exact h.own,nodup:=by rw [ids_set hi]; exact h.nodup,hol:=h.hol,facts:=fun φ hφ=>?_ }
  ·have hne:b≠g:=by
    rintro rfl
    rcases h.own _ hgm with h1 | h1
    ·exact hI h1
    ·omega
   have:=h.size
   rw [hb.block b (by omega) (fun e=>hne (by cases e; rfl))]
   exact h.frame b hb' hI
  ·rcases mem_set_other h.nodup hi hp with ⟨rfl,rfl⟩ | ⟨h1,h2⟩
   ·exact hug
   ·rw [hb.block k (h.lt (mem_ids.2 ⟨o',h2⟩)) (fun e=>h1 (by cases e; rfl))]
    exact h.at_ k o' h2
  ·rw [ids_set hi]
   refine (h.facts φ (mem_set_fact hφ)).on ⟨hb.os,hb.tape,hb.output,hb.size,fun b hb' hn=>?_⟩ (fun x hx _=>hx)
   exact hb.block b hb' (fun e=>hn (by cases e; exact List.mem_append_right _ hgm))
 rcases hw with rfl | hw
 ·rw [hug] at hg'
  cases hg'
  exact h1
 ·-- the old one is let go of, the new one is ours
  have hsub:∀ k∈ids (L.set i (.b g' u')),k=g'∨k∈ids L:=by
   intro k hk
   obtain ⟨o',ho'⟩:=mem_ids.1 hk
   rcases List.mem_or_eq_of_mem_set ho' with h2 | h2
   ·exact .inr (mem_ids.2 ⟨o',h2⟩)
   ·injection h2 with e1 _; exact .inl e1
  have hmem:∀ k o',Ent.b k o'∈L.set i (.b g' u')→(k=g'∧o'=u')∨(k≠g∧Ent.b k o'∈L):=by
   intro k o' hp
   obtain ⟨j,hj⟩:=List.getElem?_of_mem hp
   rw [List.getElem?_set] at hj
   split at hj
   ·split at hj
    ·have:=Option.some.inj hj; injection this with e1 e2; exact .inl ⟨e1.symm,e2.symm⟩
    ·cases hj
   ·rename_i hne
    refine .inr ⟨fun e=>hne ?_,List.mem_of_getElem? hj⟩
    subst e
    exact nodup_idx h.nodup hi hj
  have hnod:(ids (L.set i (.b g' u'))).Nodup:=by
   have hfresh:g' ∉ ids L:=fun hm'=>by have:=h.lt hm'; omega
   clear hsub hmem h1 hb hug hg'
   have hno:=h.nodup
   clear h hglt hgm
   induction L generalizing i with
   | nil=>cases hi
   | cons e r ih =>
    cases i with
    | zero =>
     simp at hi
     subst hi
     rw [List.set_cons_zero,ids_b,List.nodup_cons]
     rw [ids_b] at hno hfresh
     rw [List.nodup_cons] at hno
     exact ⟨fun hm'=>hfresh (List.mem_cons_of_mem _ hm'),hno.2⟩
    | succ i =>
     rw [List.set_cons_succ]
     cases e with
     | f φ=>rw [ids_f] at hno hfresh ⊢; exact ih (by simpa using hi) hfresh hno
     | b k o' =>
      rw [ids_b] at hno hfresh ⊢
      rw [List.nodup_cons] at hno ⊢
      refine ⟨fun hm'=>?_,ih (by simpa using hi) (fun hm'=>hfresh (List.mem_cons_of_mem _ hm')) hno.2⟩
      obtain ⟨o'',ho''⟩:=mem_ids.1 hm'
      rcases List.mem_or_eq_of_mem_set ho'' with h2 | h2
      ·exact hno.1 (mem_ids.2 ⟨o'',h2⟩)
      ·injection h2 with e1 _
       exact hfresh (by rw [← e1]; exact List.mem_cons_self)
  refine { toAgree:=h1.toAgree,at_:=fun k o' hp=>?_,own:=fun k hk=>?_,nodup:=hnod,hol:=h1.hol,facts:=fun φ hφ=>?_ }
  ·rcases hmem k o' hp with ⟨rfl,rfl⟩ | ⟨h2,h3⟩
   ·exact hg'
   ·rw [hb.block k (h.lt (mem_ids.2 ⟨o',h3⟩)) (fun e=>h2 (by cases e; rfl))]
    exact h.at_ k o' h3
  ·rcases hsub k hk with rfl | hk
   ·have:=h.size; exact .inr (by omega)
   ·exact h.own k hk
  ·refine (h.facts φ (mem_set_fact hφ)).on ⟨hb.os,hb.tape,hb.output,hb.size,fun b hb' hn=>?_⟩ (fun x hx hlt=>?_)
   ·exact hb.block b hb' (fun e=>hn (by cases e; exact List.mem_append_right _ hgm))
   ·rcases List.mem_append.1 hx with hx | hx
    ·exact List.mem_append_left _ hx
    ·rcases hsub x hx with rfl | hx
     ·omega
     ·exact List.mem_append_right _ hx
theorem e_app {t e:TypeId} {c:Call} {x y:Operand} {z:Value} {m bytes k cp d i j:Nat} {b off g q cap:Nat} {cs news olds:List Value} {cur:Array Value} {ee:TypeId} (ho:o.op = .call c) (hc:c.callee = .builtin .append) (hca:c.args=#[x,y]) (hct:c.argTypes=#[t,t]) (hd:o.dst=some d) (hn:Nat.blt d n.n=true)
  (ht:P.underlying t=some (.slice e)) (hi:(P.info? e).map (fun i=>(i.zero,i.size,i.bytes))=some (some z,m,bytes)) (hz:z.cells.size=m) (hm:0<m)
  (hx:ev F x=some (.slice (some ⟨g,0,none⟩) q cap)) (hLg:L[j]?=some (.b g (.cells cur e (0,0)))) (hqc:q≤cap) (hcm:cap≤maxLen) (hcs:cur.size=cap * m) (holds:cur.toList.take (q * m)=olds)
  (hy:ev F y=some (.slice (some ⟨b,off,none⟩) k cp)) (hL:L[i]?=some (.b b (.cells cs.toArray ee (0,0)))) (hnews:(cs.drop off).take (k * m)=news) (hnl:news.length=k * m) (hone:∀ u∈news,u.oneCell'=true) (hkb:(q+k) * bytes≤140737488355328) (hkm:q+k≤maxLen) :
  OpE P n w0 I o F L (fun X=>∀ g' cap' cur',q+k≤cap'→cap'≤maxLen→cur'.size=cap' * m→cur'.toList.take ((q+k) * m)=olds ++ news→X ((d,.slice (some ⟨g',0,none⟩) (q+k) cap') :: F) (L.set j (.b g' (.cells cur' e (0,0))))):=by
 intro X hX a w hf htr K Q np hK
 obtain ⟨inf,hinf,hz'⟩:=Option.map_eq_some_iff.1 hi
 simp only [Prod.mk.injEq] at hz'
 have hgget:=htr.toWS.get hLg
 have hglt:g<w.heap.size:=(Array.getElem?_eq_some_iff.1 hgget).1
 have hol:olds.length=q * m:=by rw [← holds,List.length_take,Array.length_toList,hcs]; exact Nat.min_eq_left (Nat.mul_le_mul_right _ hqc)
 have hown:w.ownsRow 0 e m (.slice (some ⟨g,0,none⟩) q cap) q olds:=⟨hol,.inr ⟨g,cap,cur,rfl,Nat.zero_le _,hgget,hqc,hcm,hcs,holds⟩⟩
 have hcell:∀ j u,news[j]?=some u→w.cell? ((⟨b,off,none⟩:Addr).add j)=some u:=by
  intro j u hu
  have h1:w.cell? ⟨b,off+j,none⟩=some u:=by
   rw [htr.toWS.cell hL]
   rw [← hnews,List.getElem?_take] at hu
   split at hu
   ·rw [List.getElem?_drop] at hu; simpa using hu
   ·cases hu
  unfold Addr.add
  split
  ·rename_i h0; subst h0; simpa using h1
  ·exact h1
 obtain ⟨v',w',hrun,hrow,hgrow,hnil,hat⟩:=run_append_own_at (P:=P) w 0 t o.type e inf z m bytes ht hinf hz'.1 hz'.2.1 hz'.2.2 hz hm _ q olds hown ⟨b,off,none⟩ k cp news hnl hcell hone hkm hkb (Nat.zero_le _)
 have hr:(execOp a.eval o).run P w = .ok (.value v') w':=by
  simp only [execOp,ho,resolve,hc,hca,hct,Sem.run_bind,Sem.run_pure,Result.andThen_ok,invoke,builtin,List.map_toArray,List.map_cons,List.map_nil,hf.ev hx,hf.ev hy,hrun]
 obtain ⟨hl,hcase⟩:=hrow
 rcases hcase with ⟨rfl,h0⟩ | ⟨g',cap',cur',rfl,_,hgh,hnc,hcm',hsz,htk⟩
 ·have:=hnil.1 rfl; cases this.1
 ·unfold Oper.wp
  rw [hr,Oper.upon_value,hd]
  refine hK _ _ (hX g' cap' cur' hnc hcm' hsz htk) _ _ (hf.put (blt_lt hn) _) ?_
  exact htr.swap hLg hgrow hgh (by simp [Value.ownBlock] at hat; omega)
end
end Go.Eng
namespace Go.Eng
open Go.RowKit Go.Proofs.YtgbcnokeaaabfaaGreatW.PrintWords
set_option linter.unusedVariables false
set_option linter.unusedSimpArgs false
def at0 (A:Option Addr) (j:Int) (m:Nat):Addr:=(A.getD ⟨0,0,none⟩).add (j.toNat * m)
theorem KC_at {α:Type} {d:Kd α} {A:Option Addr} {c:Nat} {l:List α} {w:World} (h:KC d A c l w) (z:α) (j:Int) (h0:0≤j) (h1:j<l.length) {cs:List Value} (hopen:∀ K,d.K w (l.getD j.toNat z) K→K=cs) (q:Nat) (v:Value) (hq:cs[q]?=some v):w.cell? ((at0 A j d.sz).add q)=some v:=by
 obtain ⟨ad,K,rfl,_,hK,hc⟩:=Kd.C_get h.1 z j h0 h1
 obtain rfl:=hopen K hK
 unfold at0
 rw [Go.Deep.add_add]
 exact hc q v hq
theorem add0 (a:Addr):a.add 0=a:=by simp [Addr.add]
section
variable {P:Program} {W:Code→(Exit→Act→World→Prop)→Act→World→Prop} {n:Sz} {w0:World} {I:Ix} {F:FL} {L:HL} {o:Oper} {Q:Exit→Act→World→Prop}
theorem v_iaK {α:Type} {d:Kd α} {t e:TypeId} {x y:Operand} {A:Option Addr} {l:List α} {len c c' m i:Nat} {k:IntKind} {j:Int} (ho:o.op = .indexAddr t x y) (ht:P.underlying t=some (.slice e)) (hm:(P.info? e).map (·.size)=some m) (hx:ev F x=some (.slice A len c)) (hy:ev F y=some (.int k j)) (hL:L[i]?=some (.f (KC d A c' l))) (hlen:len=l.length) (h0:0≤j) (h1:j<(l.length:Int)):OpV P n w0 I o F L (.pointer (some (at0 A j m))):=by
 intro a w hf hs
 have hK:KC d A c' l w:=hs.fact _ (List.mem_of_getElem? hL)
 obtain ⟨ad,rfl⟩:∃ ad,A=some ad:=by
  cases l with
  | nil=>simp at h1; omega
  | cons z r=>obtain ⟨ad,_,e,_⟩:=Kd.C_get hK.1 z j h0 h1; exact ⟨ad,e⟩
 have h1':j<(len:Int):=by rw [hlen]; exact h1
 simp [execOp,ho,hf.ev hx,hf.ev hy,Instr.indexAt,asIntOf,run_underlying ht,h0,h1',run_size hm,at0]
theorem v_fax {s:TypeId} {x:Operand} {f:Nat} {fs:Array Field} {fd:Field} {ad:Addr} {m:Nat} (ho:o.op = .fieldAddr s x f) (hs':P.underlying s=some (.struct fs)) (hf':fs[f]?=some fd) (hm:(P.info? fd.type).map (·.size)=some (m+1)) (hx:ev F x=some (.pointer (some ad))):OpV P n w0 I o F L (.pointer (some (ad.add fd.offset))):=by
 intro a w hf hs
 simp only [execOp,ho,hf.ev hx,Instr.fieldAt,Instr.sureAddr,Sem.run_bind,Sem.run_pure,Result.andThen_ok,run_underlying hs',hf',fieldPlace,run_size hm,Nat.add_eq_zero_iff,Nat.one_ne_zero,and_false,if_false]
theorem v_ldK {α:Type} {d:Kd α} {t:TypeId} {x:Operand} {D:TypeDesc} {A:Option Addr} {l:List α} {c m:Nat} {j:Int} {v:Value} (z:α) (i:Nat) (ho:o.op = .load t x) (ht:P.underlying t=some D) (hd:notAgg D=true) (hx:ev F x=some (.pointer (some (at0 A j m)))) (hL:L[i]?=some (.f (KC d A c l))) (hsz:d.sz=m) (h0:0≤j) (h1:j<(l.length:Int)) (hopen:∀ w K,d.K w (l.getD j.toNat z) K→K=[v]):OpV P n w0 I o F L v :=
 v_ldf i ho ht hd hx hL (fun w hw=>by
  subst hsz
  have:=KC_at hw z j h0 h1 (hopen w) 0 v rfl
  rwa [add0] at this)
theorem v_ldKf {α:Type} {d:Kd α} {t:TypeId} {x:Operand} {D:TypeDesc} {A:Option Addr} {l:List α} {c m q:Nat} {j:Int} {v:Value} (z:α) (cs:List Value) (i:Nat) (ho:o.op = .load t x) (ht:P.underlying t=some D) (hd:notAgg D=true) (hx:ev F x=some (.pointer (some ((at0 A j m).add q)))) (hL:L[i]?=some (.f (KC d A c l))) (hsz:d.sz=m) (h0:0≤j) (h1:j<(l.length:Int)) (hopen:∀ w K,d.K w (l.getD j.toNat z) K→K=cs) (hq:cs[q]?=some v):OpV P n w0 I o F L v :=
 v_ldf i ho ht hd hx hL (fun w hw=>by
  subst hsz
  exact KC_at hw z j h0 h1 (hopen w) q v hq)
theorem v_ldKA {α:Type} {d:Kd α} {t:TypeId} {x:Operand} {D:TypeDesc} {A:Option Addr} {l:List α} {c m:Nat} {j:Int} (z:α) (cs:List Value) (i:Nat) (ho:o.op = .load t x) (ht:P.underlying t=some D) (hd:notAgg D=false) (hm:(P.info? t).map (·.size)=some m) (hx:ev F x=some (.pointer (some (at0 A j m)))) (hL:L[i]?=some (.f (KC d A c l))) (hl:cs.length=m) (hsz:d.sz=m) (h0:0≤j) (h1:j<(l.length:Int)) (hopen:∀ w K,d.K w (l.getD j.toNat z) K→K=cs):OpV P n w0 I o F L (.agg cs.toArray) :=
 v_ldAf cs i ho ht hd hm hx hL hl (fun w hw q v hq=>by
  subst hsz
  exact KC_at hw z j h0 h1 (hopen w) q v hq)
theorem OpV.cast {u v:Value} (h:OpV P n w0 I o F L u) (e:u=v):OpV P n w0 I o F L v:=e ▸ h
theorem eqDepth:∃ d,Op.maxDepth=d+2:=⟨9998,rfl⟩
theorem v_eqA {t t':TypeId} {x y:Operand} {xs ys:Array Value} {r:Bool} (ho:o.op = .binOp .eql t x y t') (hx:ev F x=some (.agg xs)) (hy:ev F y=some (.agg ys)) (hg:P.eqGuardType P.depth t=false) (he:∀ d w,(Op.equalIn (d+2) t (.agg xs) (.agg ys)).run P w = .ok r w):OpV P n w0 I o F L (.bool r):=by
 intro a w hf hs
 obtain ⟨d,hd⟩:=eqDepth
 simp [execOp,ho,hf.ev hx,hf.ev hy,eqGuard,binOp,hg,Op.equal,hd]
 have:=he d w
 simp [this]
theorem v_eqnB {t t':TypeId} {x y:Operand} {b c:Bool} (ho:o.op = .binOp .neq t x y t') (ht:P.underlying t=some .bool) (hx:ev F x=some (.bool b)) (hy:ev F y=some (.bool c)):OpV P n w0 I o F L (.bool !(b == c)):=by
 intro a w hf hs
 obtain ⟨d,hd⟩:=eqDepth
 have:(Op.equalIn (d+2) t (.bool b) (.bool c)).run P w = .ok (b == c) w:=by
  simp [Op.equalIn,run_underlying ht]
 simp [execOp,ho,hf.ev hx,hf.ev hy,eqGuard,binOp,Op.equal,hd,this]
theorem Tri.dup {w:World} (h:Tri w0 I w L):∀ {L1:HL},(∀ p∈L1,p∈L)→ids L1=[]→Tri w0 I w (L1 ++ L)
 | [],_,_=>h
 | .b n o :: r,_,hi=>by rw [ids_b] at hi; cases hi
 | .f φ :: r,hs,hi=>by
  rw [ids_f] at hi
  have ih:=Tri.dup h (fun p hp=>hs p (List.mem_cons_of_mem _ hp)) hi
  refine ih.know ?_
  rw [ids_app,hi,List.nil_append]
  exact h.facts φ (hs _ List.mem_cons_self)
theorem e_callF {c:Call} {x:Operand} {g:FuncId} {fn:Func} {fst cap:Array Value} {vs:List Value} {d:Nat} {L1:HL} {C:(Value→HL→Prop)→Prop} (idx:List Nat) (args:Array Value) (ho:o.op = .call c) (hc:c.callee = .value x) (hx:ev F x=some (.func (.func g) fst cap)) (hv:evs F c.args.toList=some vs) (hargs:fst ++ vs.toArray ++ cap=args)
    (hf : P.funcs[g]? = some fn) (hb : fn.body.isNone = false) (hname : (fn.name == "runtime.NumGoroutine") = false) (hd : o.dst = some d) (hn : Nat.blt d n.n = true) (h1 : pick L idx = some L1) (hi : ids L1 = [])
    (hcon:∀ w,Tri w0 I w L→Con P g args w (I.holes ++ ids L) L1 C):OpE P n w0 I o F L (fun X=>C (fun v L1'=>X ((d,v) :: F) (L1' ++ L))):=by
  intro X hX a w hfr ht K Q np hK
  have e1:c.args.map a.eval=vs.toArray:=Array.toList_inj.1 (by simpa using hfr.evs hv)
  have hr:(execOp a.eval o).run P w = .ok (.enter g args) w:=by
    simp only [execOp,ho,resolve,hc,e1,hfr.ev hx,Deferred.ofValue,Sem.run_bind,Sem.run_pure,Result.andThen_ok,invoke,hargs,run_callFunc hf hb hname]
  have ht1:Tri w0 I w (L1 ++ L):=ht.dup (mem_pick h1) hi
  have hnd:(ids (L1 ++ L)).Nodup:=ht1.nodup
  have h:=hcon w ht (ht1.here (fun p hp=>hp) hnd) _ hX
  unfold Oper.wp
  rw [hr,Oper.upon_enter]
  refine h.mono ?_
  rintro e w' ⟨v,L',rfl,hx',ht'⟩
  show K (a.put o.dst v) w'
  rw [hd]
  exact hK _ _ hx' _ _ (hfr.put (blt_lt hn) v) (ht1.trans (fun p hp=>hp) hnd ht')
def LoopAt {σ:Type} (n:Sz) (w0:World) (I:Ix) (Inv:σ→Prop) (μ:σ→Nat) (Fs:σ→FL) (Ls:σ→HL) (m:Nat) (a:Act) (w:World):Prop:=∃ s,Inv s∧μ s=m∧Fr n a (Fs s)∧Tri w0 I w (Ls s)
theorem c_loop {σ:Type} {c:Code} (Inv:σ→Prop) (μ:σ→Nat) (Fs:σ→FL) (Ls:σ→HL) (s0:σ) (idx:List Nat) (h:cK c=4) (h0:Inv s0) (hF:∀ j v,look (Fs s0) j=some v→look F j=some v) (hp:pick L idx=some (Ls s0)) (hi:idx.Nodup)
  (hbody:∀ s,Inv s→CW P W n w0 I (cA c) (Exit.then (fun a' w'=>∃ k,k<μ s∧LoopAt n w0 I Inv μ Fs Ls k a' w') Q) (Fs s) (Ls s)):CW P W n w0 I c Q F L:=by
 intro fl np a w hf ht
 have:c = .loop (cA c):=by cases c <;> first | (simp [cK] at h; done) | rfl | (rename_i d; cases d <;> first | rfl | (simp [cK] at h; done))
 rw [this]
 refine fl.loop (fun m a w=>LoopAt n w0 I Inv μ Fs Ls m a w) (μ s0) ⟨s0,h0,rfl,hf.sub hF,ht.pick (mem_pick hp) (pick_nodup ht.nodup hp hi)⟩ ?_
 rintro m a' w' ⟨s,hs,rfl,hf',ht'⟩
 exact hbody s hs fl ⟨fun c a w h=>np.1 c a w h,fun a w h=>np.2 a w h⟩ a' w' hf' ht'
theorem q_again {σ:Type} {Inv:σ→Prop} {μ:σ→Nat} {Fs:σ→FL} {Ls:σ→HL} {m:Nat} (s':σ) (idx:List Nat) (hs:Inv s') (hm:μ s'<m) (hF:∀ j v,look (Fs s') j=some v→look F j=some v) (hp:pick L idx=some (Ls s')) (hi:idx.Nodup):QW P W n w0 I .normal (Exit.then (fun a' w'=>∃ k,k<m∧LoopAt n w0 I Inv μ Fs Ls k a' w') Q) F L :=
 fun fl np a w hf ht=>⟨μ s',hm,s',hs,rfl,hf.sub hF,ht.pick (mem_pick hp) (pick_nodup ht.nodup hp hi)⟩
def subF (F:FL):FL→Prop
 | []=>True
 | p :: r=>look F p.1=some p.2∧subF F r
theorem subF_spec {F:FL}:∀ {F':FL},subF F F'→∀ j v,look F' j=some v→look F j=some v
 | [],_,j,v,h=>by cases h
 | p :: r,h,j,v,hv=>by
  obtain ⟨d,u⟩:=p
  exact sub_cons h.1 (fun j v hv=>subF_spec h.2 j v hv) j v hv
theorem c_knowT {c:Code} {φ:World→Prop} (hφ:∀ w,φ w) (k:CW P W n w0 I c Q F (.f φ :: L)):CW P W n w0 I c Q F L :=
 fun fl np a w hf ht=>k fl np a w hf (ht.know (fun w' _=>hφ w'))
end
end Go.Eng
namespace Go.Eng
open Go.RowKit Go.Proofs.YtgbcnokeaaabfaaGreatW.PrintWords
set_option linter.unusedVariables false
set_option linter.unusedSimpArgs false
theorem stab_cell {H:List Nat} {w:World} {φ:World→Prop} {ad:Addr} (h:Stab H w φ) (hφ:∀ w,φ w→∃ v,w.cell? ad=some v) {w':World} (ha:Agree H w w'):w'.cell? ad=w.cell? ad:=by
 obtain ⟨v,hv⟩:=hφ w h.here
 have hlt:=World.block_lt_of_cell? w _ hv
 by_cases hb:ad.block∈H
 ·exfalso
  obtain ⟨u,hu⟩:=hφ { w with heap:=w.heap.setIfInBounds ad.block (.deferred none) } (h _ ⟨rfl,rfl,rfl,by simp,fun k hk hn=>by
   have hne:ad.block≠k:=fun e=>hn (e ▸ hb)
   simp only [Array.getElem?_setIfInBounds_ne hne]⟩)
  simp [World.cell?,hlt] at hu
 ·exact World.cell?_of_block (ha.frame _ hlt hb)
section
variable {P:Program} {W:Code→(Exit→Act→World→Prop)→Act→World→Prop} {n:Sz} {w0:World} {I:Ix} {F:FL} {L:HL} {o:Oper} {Q:Exit→Act→World→Prop}
theorem q_weak {e:Exit} {φ ψ:World→Prop} (i:Nat) (hL:L[i]?=some (.f φ)) (h:∀ w,φ w→ψ w) (k:QW P W n w0 I e Q F (.f ψ :: L)):QW P W n w0 I e Q F L :=
 fun fl np a w hf ht=>k fl np a w hf (ht.know (fun w' ha=>h w' (ht.facts _ (List.mem_of_getElem? hL) w' ha)))
theorem q_both {e:Exit} {φ ψ:World→Prop} (i j:Nat) (hL:L[i]?=some (.f φ)) (hM:L[j]?=some (.f ψ)) (k:QW P W n w0 I e Q F (.f (fun w=>φ w∧ψ w) :: L)):QW P W n w0 I e Q F L :=
 fun fl np a w hf ht=>k fl np a w hf (ht.know (fun w' ha=>⟨ht.facts _ (List.mem_of_getElem? hL) w' ha,ht.facts _ (List.mem_of_getElem? hM) w' ha⟩))
def RowI (k:IntKind) (xs:List Int) (rest:List Value):Array Value:=(xs.map (Value.int k) ++ rest).toArray
theorem RowI_take {k:IntKind} {xs:List Int} {rest:List Value}:(RowI k xs rest).toList.take (xs.length * 1)=xs.map (Value.int k):=by
 simp [RowI]
theorem RowI_get {k:IntKind} {xs:List Int} {rest:List Value} {i:Nat} (h:i<xs.length):(RowI k xs rest)[i]?=some (.int k xs[i]):=by
 simp [RowI,List.getElem?_append_left,h]
theorem RowI_set {k:IntKind} {xs:List Int} {rest:List Value} {i:Nat} (h:i<xs.length) (v:Int):(RowI k xs rest).setIfInBounds i (.int k v)=RowI k (xs.set i v) rest:=by
 apply Array.toList_inj.1
 simp only [RowI,Array.toList_setIfInBounds]
 rw [List.set_append_left _ _ (by simpa using h),List.map_set]
theorem RowI_of {k:IntKind} {cur:Array Value} {xs:List Int} (h:cur.toList.take (xs.length * 1)=xs.map (Value.int k)):cur=RowI k xs (cur.toList.drop xs.length):=by
 apply Array.toList_inj.1
 simp only [RowI]
 rw [← h,Nat.mul_one,List.take_append_drop]
theorem v_iaO {t e:TypeId} {x y:Operand} {g len cap:Nat} {kk:IntKind} {j:Nat} (ho:o.op = .indexAddr t x y) (ht:P.underlying t=some (.slice e)) (hm:(P.info? e).map (·.size)=some 1) (hx:ev F x=some (.slice (some ⟨g,0,none⟩) len cap)) (hy:ev F y=some (.int kk (j:Nat))) (h1:j<len):OpV P n w0 I o F L (.pointer (some ⟨g,j,none⟩)):=by
 have h:=v_ia (P:=P) (n:=n) (w0:=w0) (I:=I) (F:=F) (L:=L) ho ht hm hx hy (by omega) (by omega)
 have e1:(⟨g,0,none⟩:Addr).add (((j:Nat):Int).toNat * 1)=⟨g,j,none⟩:=by
  rw [Int.toNat_natCast,Nat.mul_one]
  unfold Addr.add
  split <;> simp_all
 rw [e1] at h
 exact h
theorem v_ldO {k:IntKind} {t:TypeId} {x:Operand} {g j:Nat} {xs:List Int} {rest:List Value} {e:TypeId} {fz:Nat × Nat} {v:Int} {D:TypeDesc} (i:Nat) (ho:o.op = .load t x) (ht:P.underlying t=some D) (hd:notAgg D=true) (hx:ev F x=some (.pointer (some ⟨g,j,none⟩))) (hL:L[i]?=some (.b g (.cells (RowI k xs rest) e fz))) (hj:j<xs.length) (hv:xs[j]=v):OpV P n w0 I o F L (.int k v) :=
 v_ld i ho ht hd hx hL (by rw [RowI_get hj,hv])
theorem e_stO {k:IntKind} {t:TypeId} {x y:Operand} {g j:Nat} {xs:List Int} {rest:List Value} {e:TypeId} {v:Int} (i:Nat) (ho:o.op = .store t x y) (hd:o.dst=none) (hm:(P.info? t).map (·.size)=some 1) (hx:ev F x=some (.pointer (some ⟨g,j,none⟩))) (hy:ev F y=some (.int k v))
  (hL:L[i]?=some (.b g (.cells (RowI k xs rest) e (0,0)))) (hj:j<xs.length):OpE P n w0 I o F L (fun X=>X F (L.set i (.b g (.cells (RowI k (xs.set j v) rest) e (0,0))))):=by
 have h:=e_st (P:=P) (n:=n) (w0:=w0) (I:=I) (F:=F) i ho hd hm hx hy rfl hL (by simp [RowI]; omega)
 rw [RowI_set hj] at h
 exact h
end
end Go.Eng
namespace Go.Eng
open Go.RowKit Go.Proofs.YtgbcnokeaaabfaaGreatW.PrintWords
set_option linter.unusedVariables false
set_option linter.unusedSimpArgs false
theorem KC_reps {α:Type} {D:Kd α} {A:Option Addr} {c:Nat} {l:List α} {w:World} (h:KC D A c l w):∃ inner,Reps (D.K w) D.sz l inner∧∀ ad,A=some ad→∀ j u,inner[j]?=some u→w.cell? (ad.add j)=some u:=by
 have key:∀ i,i≤l.length→∃ inner,Reps (D.K w) D.sz (l.take i) inner∧∀ ad,A=some ad→∀ j u,inner[j]?=some u→w.cell? (ad.add j)=some u:=by
  intro i
  induction i with
  | zero=>exact fun _=>⟨[],by rw [List.take_zero]; exact Reps.none _ _,fun ad _ j u hu=>by simp at hu⟩
  | succ i ih =>
   intro hi
   obtain ⟨inner,hr,hc⟩:=ih (by omega)
   obtain ⟨ad,cs,rfl,hcl,hKc,hcell⟩:=Kd.C_get h.1 (l[i]'(by omega)) (i:Nat) (by omega) (by omega)
   have e:l.getD ((i:Nat):Int).toNat (l[i]'(by omega))=l[i]'(by omega):=by
    rw [Int.toNat_natCast,List.getD_eq_getElem?_getD,List.getElem?_eq_getElem (by omega)]; rfl
   rw [e] at hKc
   refine ⟨inner ++ cs,by rw [List.take_succ_eq_append_getElem (by omega)]; exact hr.snoc hKc hcl,fun ad' e' j u hu=>?_⟩
   have hil:inner.length=i * D.sz:=by rw [hr.1,List.length_take]; congr 1; omega
   by_cases hj:j<inner.length
   ·rw [List.getElem?_append_left hj] at hu
    exact hc ad' e' j u hu
   ·rw [List.getElem?_append_right (by omega)] at hu
    injection e' with e'
    subst e'
    have:=hcell (j - inner.length) u hu
    rw [Int.toNat_natCast] at this
    rwa [show i * D.sz+(j - inner.length)=j by omega] at this
 have:=key l.length (Nat.le_refl _)
 rwa [List.take_length] at this
section
variable {P:Program} {W:Code→(Exit→Act→World→Prop)→Act→World→Prop} {n:Sz} {w0:World} {I:Ix} {F:FL} {L:HL} {o:Oper} {Q:Exit→Act→World→Prop}
theorem e_bslice0 {t e:TypeId} {m:Nat} {d:Nat} (ho:o.op = .buildSlice t 0 #[]) (hd:o.dst=some d) (hn:Nat.blt d n.n=true) (ht:P.underlying t=some (.slice e)) (hm:(P.info? e).map (·.size)=some m) :
  OpE P n w0 I o F L (fun X=>∀ b,X ((d,.slice (some ⟨b,0,none⟩) 0 0) :: F) (.b b (.cells #[] e (0,0)) :: L)):=by
 intro X hX a w hf htr K Q np hK
 have hr:(execOp a.eval o).run P w = .ok (.value (.slice (some ⟨w.heap.size,0,none⟩) 0 0)) { w with heap:=w.heap.push (.cells #[] e) }:=by
  simp only [execOp,ho,Instr.buildSlice,Sem.run_bind,Sem.run_pure,Result.andThen_ok,run_underlying ht,run_size hm,Nat.zero_mul]
  simp [newRow,newObj,Sem.run,Instr.fill]
  rw [show Array.map (fun (_:Nat)=>(default:Value)) (Array.range 0)=#[] from Array.toList_inj.1 (by simp)]
 unfold Oper.wp
 rw [hr,Oper.upon_value,hd]
 exact hK _ _ (hX w.heap.size) _ _ (hf.put (blt_lt hn) _) (htr.alloc _)
end
end Go.Eng
