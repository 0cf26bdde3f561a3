/-
Own text, put together by an own program (shake.py) out of this claim's texts: what its theorem needs of them.
-/
import Derived.WalkKit
import Derived.OrdersHeld
import Derived.KernelRfl
import Derived.Deep.Draws
import Derived.Deep.LoopGhost
import Derived.Laws.CopyRow
import Derived.RangeFuncNested
import Derived.RangeFuncBound
import Derived.RangeFuncCalls
import Derived.RangeFuncLeaves
import Derived.OrdersIn
import Derived.Laws.EntriesVeiled
import Derived.RangeFuncFrom
import Derived.LoopIn
import Derived.Sort.LoopGhostIn
import Derived.Maps.AppendAt
import Derived.Deep.Slices
import Derived.ArgAppend
import Derived.Laws.MakeOwn
import Derived.Scope
import Derived.Control
import Derived.Test.YtgbcnokeaaabfaaGreatProg
import GoSem.Step
import GoSem.ClaimData
import Derived.LoopN
import Derived.Laws.StructEq
import Derived.ChangeKeysEq
import Derived.Lib.AppendZeros
namespace Go.Eng
end Go.Eng
namespace Go.Proofs.YtgbcnokeaaabfaaGreatW.PrintWords
end Go.Proofs.YtgbcnokeaaabfaaGreatW.PrintWords
namespace Go.Proofs.YtgbcnokeaaabfaaGreatW.PrintLast
end Go.Proofs.YtgbcnokeaaabfaaGreatW.PrintLast
namespace Go.Proofs.YtgbcnokeaaabfaaGreatW.PrintMore
end Go.Proofs.YtgbcnokeaaabfaaGreatW.PrintMore
namespace Go.Run
end Go.Run
namespace Go.Eng
open Go.RowKit
set_option linter.unusedVariables false
set_option linter.unusedSimpArgs false
abbrev FL:=List (Nat × Value)
def look:FL→Nat→Option Value
 | [],_=>none
 | p :: r,j=>match Nat.beq p.1 j with | true=>some p.2 | false=>look r j
def ev (F:FL):Operand→Option Value
 | .tmp t=>look F t
 | .const v=>some v
 | .global g=>some (.pointer (some ⟨g,0,none⟩))
 | .func f=>some (.func (.func f) #[] #[])
def evs (F:FL):List Operand→Option (List Value)
 | []=>some []
 | x :: r=>match ev F x,evs F r with
  | some v,some vs=>some (v :: vs)
  | _,_=>none
structure Sz where
 n:Nat
 ds:List Deferred:=[]
structure Fr (n:Sz) (a:Act) (F:FL):Prop where
 size:a.tmps.size=n.n
 defers:a.defers=n.ds
 at_:∀ j v,look F j=some v→a.tmps.getD j undef=v
theorem Fr.ev {n:Sz} {a:Act} {F:FL} (h:Fr n a F) {x:Operand} {v:Value} (hv:ev F x=some v):a.eval x=v:=by
 cases x with
 | tmp t=>exact h.at_ t v hv
 | const u=>exact Option.some.inj hv
 | global g=>exact Option.some.inj hv
 | func f=>exact Option.some.inj hv
theorem Fr.evs {n:Sz} {a:Act} {F:FL} (h:Fr n a F):∀ {xs:List Operand} {vs:List Value},Eng.evs F xs=some vs→xs.map a.eval=vs
 | [],vs,hv=>by simp [Eng.evs] at hv; subst hv; rfl
 | x :: r,vs,hv=>by
  simp only [Eng.evs] at hv
  cases h1:Eng.ev F x with
  | none=>rw [h1] at hv; simp at hv
  | some u=>cases h2:Eng.evs F r with
   | none=>rw [h1,h2] at hv; simp at hv
   | some us =>
    rw [h1,h2] at hv
    have:=Option.some.inj hv
    subst this
    simp [h.ev h1,h.evs h2]
theorem blt_lt {d n:Nat} (h:Nat.blt d n=true):d<n:=Nat.le_of_ble_eq_true h
theorem beq_spec {i j:Nat}:Nat.beq i j=true↔i=j:=by
 constructor
 ·exact Nat.eq_of_beq_eq_true
 ·rintro rfl; exact Nat.beq_refl _
theorem look_cons (p:Nat × Value) (r:FL) (j:Nat):look (p :: r) j=if p.1=j then some p.2 else look r j:=by
 simp only [look]
 by_cases h:p.1=j
 ·rw [if_pos h,beq_spec.2 h]
 ·rw [if_neg h]
  have:Nat.beq p.1 j=false:=by
   cases hb:Nat.beq p.1 j with
   | true=>exact absurd (beq_spec.1 hb) h
   | false=>rfl
  rw [this]
theorem Fr.put {n:Sz} {a:Act} {F:FL} (h:Fr n a F) {d:Nat} (hd:d<n.n) (v:Value):Fr n (a.put (some d) v) ((d,v) :: F):=by
 refine ⟨by simp [Act.put,h.size],by simp [Act.put,h.defers],fun j u hu=>?_⟩
 rw [look_cons] at hu
 by_cases hj:d=j
 ·subst hj
  rw [if_pos rfl] at hu
  have:=Option.some.inj hu
  subst this
  simp [Act.put,h.size,hd]
 ·rw [if_neg hj] at hu
  have:=h.at_ j u hu
  simp only [Act.put,Array.getD_eq_getD_getElem?,Array.getElem?_setIfInBounds_ne hj] at this ⊢
  exact this
theorem Fr.putNone {n:Sz} {a:Act} {F:FL} (h:Fr n a F) (v:Value):Fr n (a.put none v) F:=h
theorem Fr.sub {n:Sz} {a:Act} {F F':FL} (h:Fr n a F) (hs:∀ j v,look F' j=some v→look F j=some v):Fr n a F' :=
 ⟨h.size,h.defers,fun j v hv=>h.at_ j v (hs j v hv)⟩
theorem sub_cons {F F':FL} {d:Nat} {u:Value} (h:look F d=some u) (hr:∀ j v,look F' j=some v→look F j=some v):∀ j v,look ((d,u) :: F') j=some v→look F j=some v:=by
 intro j v hv
 rw [look_cons] at hv
 by_cases hj:d=j
 ·subst hj; rw [if_pos rfl] at hv; rw [← hv]; exact h
 ·rw [if_neg hj] at hv; exact hr j v hv
inductive Ent where
 | b (n:Nat) (o:Obj)
 | f (φ:World→Prop)
abbrev HL:=List Ent
def Ent.id?:Ent→Option Nat
 | .b n _=>some n
 | .f _=>none
def ids (L:HL):List Nat:=L.filterMap Ent.id?
theorem mem_ids {L:HL} {n:Nat}:n∈ids L↔∃ o,Ent.b n o∈L:=by
 unfold ids
 rw [List.mem_filterMap]
 constructor
 ·rintro ⟨e,he,h⟩
  cases e with
  | b m o=>simp [Ent.id?] at h; subst h; exact ⟨o,he⟩
  | f φ=>simp [Ent.id?] at h
 ·rintro ⟨o,h⟩
  exact ⟨_,h,rfl⟩
theorem ids_b (n:Nat) (o:Obj) (L:HL):ids (.b n o :: L)=n :: ids L:=List.filterMap_cons_some rfl
theorem ids_f (φ:World→Prop) (L:HL):ids (.f φ :: L)=ids L:=List.filterMap_cons_none rfl
theorem ids_app (L M:HL):ids (L ++ M)=ids L ++ ids M:=by simp [ids]
structure Ix where
 own:List Nat
 holes:List Nat
structure Agree (H:List Nat) (w w':World):Prop where
 os:w'.os=w.os
 tape:w'.tape=w.tape
 output:w'.output=w.output
 size:w.heap.size≤w'.heap.size
 frame:∀ b,b<w.heap.size→b ∉ H→w'.heap[b]?=w.heap[b]?
theorem Agree.refl (H:List Nat) (w:World):Agree H w w:=⟨rfl,rfl,rfl,Nat.le_refl _,fun _ _ _=>rfl⟩
theorem Agree.trans {H:List Nat} {a b c:World} (h:Agree H a b) (k:Agree H b c):Agree H a c :=
 ⟨k.os.trans h.os,k.tape.trans h.tape,k.output.trans h.output,Nat.le_trans h.size k.size,fun x hx hn=>(k.frame x (Nat.lt_of_lt_of_le hx h.size) hn).trans (h.frame x hx hn)⟩
theorem Agree.mono {H H':List Nat} {a b:World} (h:Agree H a b) (hs:∀ x∈H,x<a.heap.size→x∈H'):Agree H' a b :=
 ⟨h.os,h.tape,h.output,h.size,fun x hx hn=>h.frame x hx (fun hm=>hn (hs x hm hx))⟩
theorem Agree.below {a b:World} (h:Agree [] a b):Below a.heap.size a b:=⟨h.os,h.tape,h.output,h.size,fun k hk=>h.frame k hk (by simp)⟩
theorem Agree.of_below {H:List Nat} {a b:World} (h:Below a.heap.size a b):Agree H a b:=⟨h.os,h.tape,h.output,h.size,fun k hk _=>h.block k hk⟩
def Stab (H:List Nat) (w:World) (φ:World→Prop):Prop:=∀ w',Agree H w w'→φ w'
theorem Stab.here {H:List Nat} {w:World} {φ:World→Prop} (h:Stab H w φ):φ w:=h w (Agree.refl _ _)
theorem Stab.mono {H H':List Nat} {w:World} {φ:World→Prop} (h:Stab H w φ) (hs:∀ x∈H',x<w.heap.size→x∈H):Stab H' w φ:=fun w' ha=>h w' (ha.mono hs)
theorem Stab.on {H H':List Nat} {w w':World} {φ:World→Prop} (h:Stab H w φ) (ha:Agree H w w') (hs:∀ x∈H',x<w.heap.size→x∈H):Stab H' w' φ:=fun w'' ha' =>
 h w'' ⟨ha'.os.trans ha.os,ha'.tape.trans ha.tape,ha'.output.trans ha.output,Nat.le_trans ha.size ha'.size,fun b hb hn=>(ha'.frame b (Nat.lt_of_lt_of_le hb ha.size) (fun hm=>hn (hs b hm hb))).trans (ha.frame b hb hn)⟩
structure WS (w0:World) (I:Ix) (w:World) (L:HL):Prop extends Agree I.own w0 w where
 at_:∀ n o,Ent.b n o∈L→w.heap[n]?=some o
 fact:∀ φ,Ent.f φ∈L→φ w
structure Tri (w0:World) (I:Ix) (w:World) (L:HL):Prop extends Agree I.own w0 w where
 at_:∀ n o,Ent.b n o∈L→w.heap[n]?=some o
 own:∀ n∈ids L,n∈I.own∨w0.heap.size≤n
 nodup:(ids L).Nodup
 facts:∀ φ,Ent.f φ∈L→Stab (I.holes ++ ids L) w φ
 hol:∀ n∈I.holes,n<w0.heap.size∧n ∉ I.own
theorem Tri.toWS {w0:World} {I:Ix} {w:World} {L:HL} (h:Tri w0 I w L):WS w0 I w L:={ toAgree:=h.toAgree,at_:=h.at_,fact:=fun φ hφ=>(h.facts φ hφ).here }
theorem WS.get {w0:World} {I:Ix} {w:World} {L:HL} (h:WS w0 I w L) {i b:Nat} {o:Obj} (hi:L[i]?=some (.b b o)):w.heap[b]?=some o :=
 h.at_ _ _ (List.mem_of_getElem? hi)
theorem WS.cell {w0:World} {I:Ix} {w:World} {L:HL} (h:WS w0 I w L) {i b:Nat} {cs:Array Value} {e:TypeId} {fz:Nat × Nat} (hi:L[i]?=some (.b b (.cells cs e fz))) (j:Nat):w.cell? ⟨b,j,none⟩=cs[j]?:=by
 simp [World.cell?,h.get hi]
theorem WS.ext {w0:World} {I:Ix} {w:World} {L:HL} (h:WS w0 I w L) {a:Addr} {v:Value} (hc:w0.cell? a=some v) (ha:a.block ∉ I.own):w.cell? a=some v:=by
 have hlt:=World.block_lt_of_cell? w0 _ hc
 rw [World.cell?_of_block (w:=w0) (h.frame _ hlt ha)]
 exact hc
theorem Tri.lt {w0:World} {I:Ix} {w:World} {L:HL} (h:Tri w0 I w L) {n:Nat} (hn:n∈ids L):n<w.heap.size:=by
 obtain ⟨o,ho⟩:=mem_ids.1 hn
 exact (Array.getElem?_eq_some_iff.1 (h.at_ n o ho)).1
theorem Tri.drew {w0:World} {I:Ix} {w:World} {L:HL} (h:Tri w0 I w L):Tri w0 I { w with drawn:=w.drawn+1 } L :=
  { os:=h.os,tape:=h.tape,output:=h.output,size:=h.size,frame:=h.frame,at_:=h.at_,own:=h.own,nodup:=h.nodup,hol:=h.hol,
    facts:=fun φ hφ=>(h.facts φ hφ).on (w':={ w with drawn:=w.drawn+1 }) ⟨rfl,rfl,rfl,Nat.le_refl _,fun _ _ _=>rfl⟩ (fun x hx _=>hx) }
theorem Tri.alloc {w0:World} {I:Ix} {w:World} {L:HL} (h:Tri w0 I w L) (o:Obj):Tri w0 I { w with heap:=w.heap.push o } (.b w.heap.size o :: L):=by
 have hids:ids (.b w.heap.size o :: L)=w.heap.size :: ids L:=by simp [ids,Ent.id?]
 refine { os:=h.os,tape:=h.tape,output:=h.output,size:=by have:=h.size; simp; omega,frame:=fun b hb hI=>?_,at_:=fun n u hp=>?_,own:=fun n hn=>?_,nodup:=?_,facts:=fun φ hφ=>?_,hol:=h.hol }
 ·have:=h.size
  show (w.heap.push o)[b]?=_
  rw [Array.getElem?_push,if_neg (by omega)]
  exact h.frame b hb hI
 ·rcases List.mem_cons.1 hp with hp | hp
  ·injection hp with e1 e2
   subst e1 e2
   simp
  ·have:=h.lt (mem_ids.2 ⟨u,hp⟩)
   show (w.heap.push o)[n]?=_
   rw [Array.getElem?_push,if_neg (by omega)]
   exact h.at_ n u hp
 ·rw [hids] at hn
  rcases List.mem_cons.1 hn with rfl | hn
  ·exact .inr h.size
  ·exact h.own n hn
 ·rw [hids,List.nodup_cons]
  exact ⟨fun hm=>by have:=h.lt hm; omega,h.nodup⟩
 ·have hφ':Ent.f φ∈L:=by
   rcases List.mem_cons.1 hφ with hφ | hφ
   ·cases hφ
   ·exact hφ
  refine (h.facts φ hφ').on ⟨rfl,rfl,rfl,by simp,fun b hb _=>?_⟩ ?_
  ·show (w.heap.push o)[b]?=_
   rw [Array.getElem?_push,if_neg (by omega)]
  ·intro x hx hlt
   rw [hids] at hx
   rcases List.mem_append.1 hx with hx | hx
   ·exact List.mem_append_left _ hx
   ·rcases List.mem_cons.1 hx with rfl | hx
    ·omega
    ·exact List.mem_append_right _ hx
theorem ids_set {L:HL} {i b:Nat} {o o':Obj} (hi:L[i]?=some (.b b o)):ids (L.set i (.b b o'))=ids L:=by
 induction L generalizing i with
 | nil=>cases hi
 | cons e r ih =>
  cases i with
  | zero =>
   simp at hi
   subst hi
   simp [ids,Ent.id?]
  | succ i =>
   have:=ih (i:=i) (by simpa using hi)
   unfold ids at this ⊢
   simp only [List.set_cons_succ,List.filterMap_cons,this]
theorem mem_set_other {L : HL} {i b n : Nat} {o o' u : Obj} (hn : (ids L).Nodup) (hi : L[i]? = some (.b b o)) (hm : Ent.b n u ∈ L.set i (.b b o')) : (n = b ∧ u = o') ∨ (n ≠ b ∧ Ent.b n u ∈ L) := by
  induction L generalizing i with
  | nil => cases hi
  | cons e r ih =>
    cases i with
    | zero =>
      simp at hi
      subst hi
      rw [List.set_cons_zero] at hm
      rcases List.mem_cons.1 hm with hm' | hm'
      · injection hm' with e1 e2
        exact .inl ⟨e1, e2⟩
      · refine .inr ⟨fun e => ?_, List.mem_cons_of_mem _ hm'⟩
        rw [ids_b, List.nodup_cons] at hn
        exact hn.1 (e ▸ mem_ids.2 ⟨u, hm'⟩)
    | succ i =>
      have hi' : r[i]? = some (.b b o) := by simpa using hi
      have hbr : b ∈ ids r := mem_ids.2 ⟨o, List.mem_of_getElem? hi'⟩
      rw [List.set_cons_succ] at hm
      have hnr : (ids r).Nodup := by
        cases e with
        | b m q => have : ids (.b m q :: r) = m :: ids r := by simp [ids, Ent.id?]
                   rw [this, List.nodup_cons] at hn; exact hn.2
        | f φ => have : ids (.f φ :: r) = ids r := ids_f _ _
                 rw [this] at hn; exact hn
      rcases List.mem_cons.1 hm with hm | hm
      · subst hm
        refine .inr ⟨fun e => ?_, List.mem_cons_self⟩
        subst e
        have : ids (.b n u :: r) = n :: ids r := by simp [ids, Ent.id?]
        rw [this, List.nodup_cons] at hn
        exact hn.1 hbr
      · rcases ih hnr hi' hm with h | h
        · exact .inl h
        · exact .inr ⟨h.1, List.mem_cons_of_mem _ h.2⟩
theorem mem_set_fact {L:HL} {i b:Nat} {o':Obj} {φ:World→Prop} (hm:Ent.f φ∈L.set i (.b b o')):Ent.f φ∈L:=by
 rcases List.mem_or_eq_of_mem_set hm with h | h
 ·exact h
 ·cases h
theorem Tri.setObj {w0:World} {I:Ix} {w:World} {L:HL} (h:Tri w0 I w L) {i b:Nat} {o o':Obj} (hi:L[i]?=some (.b b o)) {H:Array Obj} (hs:H.size=w.heap.size) (hb:H[b]?=some o') (ho:∀ k,k≠b→H[k]?=w.heap[k]?) :
  Tri w0 I { w with heap:=H } (L.set i (.b b o')):=by
 have hm:b∈ids L:=mem_ids.2 ⟨o,List.mem_of_getElem? hi⟩
 refine { os:=h.os,tape:=h.tape,output:=h.output,size:=by show _≤H.size; rw [hs]; exact h.size,frame:=fun k hk hI=>?_,at_:=fun n u hp=>?_,own:=by rw [ids_set hi]; exact h.own,nodup:=by rw [ids_set hi]; exact h.nodup,facts:=fun φ hφ=>?_,hol:=h.hol }
 ·have hne:k≠b:=by
   rintro rfl
   rcases h.own _ hm with h1 | h1
   ·exact hI h1
   ·omega
  show H[k]?=_
  rw [ho k hne]
  exact h.frame k hk hI
 ·rcases mem_set_other h.nodup hi hp with ⟨rfl,rfl⟩ | ⟨h1,h2⟩
  ·exact hb
  ·show H[n]?=_
   rw [ho _ h1]
   exact h.at_ n u h2
 ·refine (h.facts φ (mem_set_fact hφ)).on ⟨rfl,rfl,rfl,by show _≤H.size; omega,fun k hk hn=>?_⟩ ?_
  ·show H[k]?=_
   exact ho k (fun e=>hn (by rw [e]; exact List.mem_append_right _ hm))
  ·intro x hx _
   rw [ids_set hi] at hx
   exact hx
theorem Tri.setCell {w0:World} {I:Ix} {w:World} {L:HL} (h:Tri w0 I w L) {i b:Nat} {cs:Array Value} {e:TypeId} {fz:Nat × Nat} (hi:L[i]?=some (.b b (.cells cs e fz))) (j:Nat) (v:Value) :
  Tri w0 I (w.setCell ⟨b,j,none⟩ v) (L.set i (.b b (.cells (cs.setIfInBounds j v) e fz))):=by
 have hg:=h.toWS.get hi
 refine h.setObj hi (H:=(w.setCell ⟨b,j,none⟩ v).heap) (by simp [World.setCell]) ?_ ?_
 ·simp [World.setCell,Array.getElem?_modify,hg]
 ·intro k hk
  simp only [World.setCell,Array.getElem?_modify]
  rw [if_neg (by omega)]
theorem Tri.pick {w0:World} {I:Ix} {w:World} {L L':HL} (h:Tri w0 I w L) (hm:∀ p∈L',p∈L) (hn:(ids L').Nodup):Tri w0 I w L' :=
  { toAgree:=h.toAgree,at_:=fun n o hp=>h.at_ n o (hm _ hp),own:=fun n hn=>by obtain ⟨o,ho⟩:=mem_ids.1 hn; exact h.own n (mem_ids.2 ⟨o,hm _ ho⟩),nodup:=hn,hol:=h.hol,
    facts:=fun φ hφ=>(h.facts φ (hm _ hφ)).mono (fun x hx _=>by
      rcases List.mem_append.1 hx with hx | hx
      · exact List.mem_append_left _ hx
      · obtain ⟨o,ho⟩:=mem_ids.1 hx; exact List.mem_append_right _ (mem_ids.2 ⟨o,hm _ ho⟩)) }
theorem Tri.know {w0:World} {I:Ix} {w:World} {L:HL} (h:Tri w0 I w L) {φ:World→Prop} (hφ:Stab (I.holes ++ ids L) w φ):Tri w0 I w (.f φ :: L):=by
 have hids:ids (.f φ :: L)=ids L:=ids_f _ _
 refine { toAgree:=h.toAgree,at_:=fun n o hp=>?_,own:=by rw [hids]; exact h.own,nodup:=by rw [hids]; exact h.nodup,hol:=h.hol,facts:=fun ψ hψ=>?_ }
 ·rcases List.mem_cons.1 hp with hp | hp
  ·cases hp
  ·exact h.at_ n o hp
 ·rw [hids]
  rcases List.mem_cons.1 hψ with hψ | hψ
  ·injection hψ with e; subst e; exact hφ
  ·exact h.facts ψ hψ
theorem Tri.give {w0:World} {I:Ix} {w:World} {L:HL} {b:Nat} {o:Obj} (h:Tri w0 I w (.b b o :: L)) (hb:b ∉ I.own):Tri w0 I w (.f (fun w'=>w'.heap[b]?=some o) :: L):=by
 have hids:ids (.b b o :: L)=b :: ids L:=by simp [ids,Ent.id?]
 have hn:=h.nodup
 rw [hids,List.nodup_cons] at hn
 have h1:=h.pick (L':=L) (fun p hp=>List.mem_cons_of_mem _ hp) hn.2
 have hget:w.heap[b]?=some o:=h.at_ b o List.mem_cons_self
 have hlt:=(Array.getElem?_eq_some_iff.1 hget).1
 refine h1.know (fun w' ha=>?_)
 refine (ha.frame b hlt (fun hm=>?_)).trans hget
 rcases List.mem_append.1 hm with hm | hm
 ·rcases h.own b (by rw [hids]; exact List.mem_cons_self) with h2 | h2
  ·exact hb h2
  ·have:=(h.hol b hm).1; omega
 ·exact hn.1 hm
theorem Tri.here {w0:World} {I:Ix} {w:World} {L L1 L2:HL} (h:Tri w0 I w L) (h12:∀ p∈L1 ++ L2,p∈L) (hn:(ids (L1 ++ L2)).Nodup):Tri w ⟨ids L1,I.holes ++ ids L2⟩ w L1:=by
 rw [ids_app,List.nodup_append] at hn
 have hsub:∀ n∈ids L1 ++ ids L2,n∈ids L:=by
  intro n hn
  rw [← ids_app] at hn
  obtain ⟨o,ho⟩:=mem_ids.1 hn
  exact mem_ids.2 ⟨o,h12 _ ho⟩
 refine { toAgree:=Agree.refl _ _,at_:=fun n o hp=>h.at_ n o (h12 _ (List.mem_append_left _ hp)),own:=fun n hn => .inl hn,nodup:=hn.1,facts:=fun φ hφ=>?_,hol:=fun n hm=>?_ }
 ·refine (h.facts φ (h12 _ (List.mem_append_left _ hφ))).mono (fun x hx _=>?_)
  simp only [List.mem_append] at hx ⊢
  rcases hx with (hx | hx) | hx
  ·exact .inl hx
  ·exact .inr (hsub x (List.mem_append_right _ hx))
  ·exact .inr (hsub x (List.mem_append_left _ hx))
 ·rcases List.mem_append.1 hm with hm | hm
  ·have h1:=h.hol n hm
   refine ⟨Nat.lt_of_lt_of_le h1.1 h.size,fun h2=>?_⟩
   rcases h.own n (hsub n (List.mem_append_left _ h2)) with h3 | h3
   ·exact h1.2 h3
   ·omega
  ·exact ⟨h.lt (hsub n (List.mem_append_right _ hm)),fun h2=>hn.2.2 n h2 n hm rfl⟩
theorem Tri.trans {w0:World} {I:Ix} {w w':World} {L L1 L2 L1':HL} (h:Tri w0 I w L) (h12:∀ p∈L1 ++ L2,p∈L) (hn:(ids (L1 ++ L2)).Nodup) (h':Tri w ⟨ids L1,I.holes ++ ids L2⟩ w' L1'):Tri w0 I w' (L1' ++ L2):=by
 rw [ids_app,List.nodup_append] at hn
 have hsub:∀ n∈ids L1 ++ ids L2,n∈ids L:=by
  intro n hn
  rw [← ids_app] at hn
  obtain ⟨o,ho⟩:=mem_ids.1 hn
  exact mem_ids.2 ⟨o,h12 _ ho⟩
 have hA:Agree (ids L1) w w':=h'.toAgree
 refine { os:=h'.os.trans h.os,tape:=h'.tape.trans h.tape,output:=h'.output.trans h.output,size:=Nat.le_trans h.size h'.size,frame:=fun b hb hI=>?_,at_:=fun n o hp=>?_,own:=fun n hm=>?_,nodup:=?_,facts:=fun φ hφ=>?_,hol:=h.hol }
 ·have hb1:b ∉ ids L1:=by
   intro hm
   rcases h.own b (hsub b (List.mem_append_left _ hm)) with h1 | h1
   ·exact hI h1
   ·omega
  have:=h.size
  rw [h'.frame b (by omega) hb1]
  exact h.frame b hb hI
 ·rcases List.mem_append.1 hp with hp | hp
  ·exact h'.at_ n o hp
  ·have h2:n∈ids L2:=mem_ids.2 ⟨o,hp⟩
   rw [h'.frame n (h.lt (hsub n (List.mem_append_right _ h2))) (fun h1=>hn.2.2 n h1 n h2 rfl)]
   exact h.at_ n o (h12 _ (List.mem_append_right _ hp))
 ·rw [ids_app] at hm
  rcases List.mem_append.1 hm with hm | hm
  ·rcases h'.own n hm with h1 | h1
   ·exact h.own n (hsub n (List.mem_append_left _ h1))
   ·have:=h.size
    exact .inr (by omega)
  ·exact h.own n (hsub n (List.mem_append_right _ hm))
 ·rw [ids_app,List.nodup_append]
  refine ⟨h'.nodup,hn.2.1,fun x hx y hy e=>?_⟩
  subst e
  rcases h'.own x hx with h1 | h1
  ·exact hn.2.2 x h1 x hy rfl
  ·have:=h.lt (hsub x (List.mem_append_right _ hy))
   omega
 ·rcases List.mem_append.1 hφ with hφ | hφ
  ·refine (h'.facts φ hφ).mono (fun x hx _=>?_)
   rw [ids_app] at hx
   simp only [List.mem_append] at hx ⊢
   rcases hx with hx | hx | hx
   ·exact .inl (.inl hx)
   ·exact .inr hx
   ·exact .inl (.inr hx)
  ·refine (h.facts φ (h12 _ (List.mem_append_right _ hφ))).on (hA.mono (fun x hx _=>List.mem_append_right _ (hsub x (List.mem_append_left _ hx)))) (fun x hx hlt=>?_)
   rw [ids_app] at hx
   simp only [List.mem_append] at hx ⊢
   rcases hx with hx | hx | hx
   ·exact .inl hx
   ·rcases h'.own x hx with h1 | h1
    ·exact .inr (hsub x (List.mem_append_left _ h1))
    ·omega
   ·exact .inr (hsub x (List.mem_append_right _ hx))
theorem Tri.of_below {w0:World} {I:Ix} {w w':World} {L:HL} (h:Tri w0 I w L) (hb:Below w.heap.size w w'):Tri w0 I w' L:=by
 refine { os:=hb.os.trans h.os,tape:=hb.tape.trans h.tape,output:=hb.output.trans h.output,size:=Nat.le_trans h.size hb.size,frame:=fun b hb' hI=>?_,at_:=fun n o hp=>?_,own:=h.own,nodup:=h.nodup,hol:=h.hol,facts:=fun φ hφ=>(h.facts φ hφ).on (Agree.of_below hb) (fun x hx _=>hx) }
 ·have:=h.size
  rw [hb.block b (by omega)]
  exact h.frame b hb' hI
 ·rw [hb.block n (h.lt (mem_ids.2 ⟨o,hp⟩))]
  exact h.at_ n o hp
theorem Tri.below {w0 w:World} {H:List Nat} {L:HL} (h:Tri w0 ⟨[],H⟩ w L):Below w0.heap.size w0 w :=
 ⟨h.os,h.tape,h.output,h.size,fun k hk=>h.frame k hk (by simp)⟩
theorem Tri.nil (w:World):Tri w ⟨[],[]⟩ w [] :=
 { toAgree:=Agree.refl _ _,at_:=fun _ _ h=>(by cases h),own:=fun _ h=>(by cases h),nodup:=by simp [ids],facts:=fun _ h=>(by cases h),hol:=fun _ h=>(by cases h) }
def cA:Code→Code
 | .seq a _=>a | .cond _ a _=>a | .block _ b=>b | .loop b=>b | .rangeFunc _ _ _ b=>b | .scope b=>b | c=>c
def cB:Code→Code
 | .seq _ b=>b | .cond _ _ b=>b | .rangeFunc _ _ a _=>a | c=>c
def cK:Code→Nat
 | .seq ..=>1 | .cond ..=>2 | .block ..=>3 | .loop ..=>4 | .rangeFunc ..=>5 | .region _ _ false=>6 | .region _ _ true=>7 | .exit _=>8 | .ret=>9 | .skip=>10 | .scope _=>11 | .label _=>12 | .goto _=>13 | .refuse _=>14
def cOps:Code→Array Oper
 | .region _ ops _=>ops
 | _=>#[]
def cId:Code→Nat
 | .region i _ _=>i | .block i _=>i | .exit i=>i | _=>0
def cC:Code→Operand
 | .cond c _ _=>c
 | _ => .const undef
def bodyOf (f:Func):Code:=f.body.getD .skip
def NP (Q:Exit→Act→World→Prop):Prop:=(∀ c a w,¬ Q (.panic c) a w)∧∀ a w,¬ Q .outgrown a w
def noDefer (ops:Array Oper):Bool:=ops.toList.all fun o=>match o.op with | .defer _=>false | _=>true
structure Flav (P:Program) (W:Code→(Exit→Act→World→Prop)→Act→World→Prop):Prop where
 seq:∀ {x y Q a w},W x (Exit.then (W y Q) Q) a w→W (.seq x y) Q a w
 cond:∀ {c x y Q a w} {t:Bool},a.eval c = .bool t→(t=true→W x Q a w)→(t=false→W y Q a w)→W (.cond c x y) Q a w
 block:∀ {i x Q a w},W x (Exit.inBlock i Q) a w→W (.block i x) Q a w
 skip:∀ {Q:Exit→Act→World→Prop} {a w},Q .normal a w→W .skip Q a w
 ret:∀ {Q:Exit→Act→World→Prop} {a w},Q .ret a w→W .ret Q a w
 exit:∀ {Q:Exit→Act→World→Prop} {a w i},Q (.exit i) a w→W (.exit i) Q a w
 ord:∀ {i ops Q a w},NP Q→noDefer ops=true→wpOps P ops Q (List.range ops.size) a w→W (.region i ops false) Q a w
 any:∀ {i ops Q a w},NP Q→noDefer ops=true→P.follows .mixedOrders=true→wpAny P .any ops Q ops.size (Array.replicate ops.size false) a { w with drawn:=w.drawn+1 }→W (.region i ops true) Q a w
 loop:∀ {c Q a w} (J:Nat→Act→World→Prop) (n₀:Nat),J n₀ a w→(∀ n a w,J n a w→W c (Exit.then (fun a' w'=>∃ k,k<n∧J k a' w') Q) a w)→W (.loop c) Q a w
theorem flav_plain (P:Program):Flav P (Code.wp P) where
 seq:=wp_seq
 cond:=wp_cond_split
 block:=wp_block
 skip:=wp_skip
 ret:=wp_ret
 exit:=wp_exit
 ord:=fun _ _ h=>wp_region h
 any:=fun _ _ hm h=>wp_region_any hm h
 loop:=fun J n₀ h0 h=>wp_loop_ghost J n₀ h0 h
section
variable (P:Program) (W:Code→(Exit→Act→World→Prop)→Act→World→Prop) (n:Sz) (w0:World) (I:Ix)
def CW (c:Code) (Q:Exit→Act→World→Prop) (F:FL) (L:HL):Prop:=Flav P W→NP Q→∀ a w,Fr n a F→Tri w0 I w L→W c Q a w
def QW (e:Exit) (Q:Exit→Act→World→Prop) (F:FL) (L:HL):Prop:=Flav P W→NP Q→∀ a w,Fr n a F→Tri w0 I w L→Q e a w
def OpV (o:Oper) (F:FL) (L:HL) (v:Value):Prop:=∀ a w,Fr n a F→WS w0 I w L→(execOp a.eval o).run P w = .ok (.value v) w
def OpE (o:Oper) (F:FL) (L:HL) (C:(FL→HL→Prop)→Prop):Prop :=
 ∀ X:FL→HL→Prop,C X→∀ a w,Fr n a F→Tri w0 I w L→∀ (K:Act→World→Prop) (Q:Exit→Act→World→Prop),NP Q→(∀ F' L',X F' L'→∀ a' w',Fr n a' F'→Tri w0 I w' L'→K a' w')→o.wp P a w K Q
def SW (ops:Array Oper) (Q:Exit→Act→World→Prop) (l:List Nat) (F:FL) (L:HL):Prop:=Flav P W→NP Q→∀ a w,Fr n a F→Tri w0 I w L→wpOps P ops Q l a w
def AW (ops:Array Oper) (Q:Exit→Act→World→Prop) (S:HL) (fuel:Nat) (listed:Array Bool) (F:FL) (L:HL):Prop :=
 Flav P W→NP Q→∀ a w,Fr n a F→Tri w0 I w L→WS w0 I w S→wpAnyH P .any ops Q (fun w=>WS w0 I w S) fuel listed a w
end
section
variable {P:Program} {W:Code→(Exit→Act→World→Prop)→Act→World→Prop} {n:Sz} {w0:World} {I:Ix} {Q:Exit→Act→World→Prop} {F:FL} {L:HL} {c:Code}
theorem code_seq (h:cK c=1):c = .seq (cA c) (cB c):=by cases c <;> first | (simp [cK] at h; done) | rfl | (rename_i d; cases d <;> first | rfl | (simp [cK] at h; done))
theorem np_then {K:Act→World→Prop} (h:NP Q):NP (Exit.then K Q):=⟨fun c a w hq=>h.1 c a w hq,fun a w hq=>h.2 a w hq⟩
theorem np_of_then {K:Act→World→Prop} (h:NP (Exit.then K Q)):NP Q:=⟨fun c a w hq=>h.1 c a w hq,fun a w hq=>h.2 a w hq⟩
theorem np_of_block {id:Nat} (h:NP (Exit.inBlock id Q)):NP Q:=⟨fun c a w hq=>h.1 c a w hq,fun a w hq=>h.2 a w hq⟩
theorem np_block {id:Nat} (h:NP Q):NP (Exit.inBlock id Q):=⟨fun c a w hq=>h.1 c a w hq,fun a w hq=>h.2 a w hq⟩
theorem c_seq (h:cK c=1) (k:CW P W n w0 I (cA c) (Exit.then (fun a w=>W (cB c) Q a w) Q) F L):CW P W n w0 I c Q F L:=by
 intro fl np a w hf ht
 rw [code_seq h]
 exact fl.seq (k fl (np_then np) a w hf ht)
theorem q_seq {d:Code} (k:CW P W n w0 I d Q F L):QW P W n w0 I .normal (Exit.then (fun a w=>W d Q a w) Q) F L:=by
 intro fl np a w hf ht
 exact k fl (np_of_then np) a w hf ht
theorem q_then_ret {K:Act→World→Prop} (k:QW P W n w0 I .ret Q F L):QW P W n w0 I .ret (Exit.then K Q) F L:=fun fl np a w hf ht=>k fl (np_of_then np) a w hf ht
theorem q_then_exit {K:Act→World→Prop} {i:Nat} (k:QW P W n w0 I (.exit i) Q F L):QW P W n w0 I (.exit i) (Exit.then K Q) F L:=fun fl np a w hf ht=>k fl (np_of_then np) a w hf ht
theorem q_block {i:Nat} (k:QW P W n w0 I .normal Q F L):QW P W n w0 I .normal (Exit.inBlock i Q) F L:=fun fl np a w hf ht=>k fl (np_of_block np) a w hf ht
theorem q_block_ret {i:Nat} (k:QW P W n w0 I .ret Q F L):QW P W n w0 I .ret (Exit.inBlock i Q) F L:=fun fl np a w hf ht=>k fl (np_of_block np) a w hf ht
theorem q_block_here {i j:Nat} (h:Nat.beq j i=true) (k:QW P W n w0 I .normal Q F L):QW P W n w0 I (.exit j) (Exit.inBlock i Q) F L:=by
 intro fl np a w hf ht
 obtain rfl:=beq_spec.1 h
 simp only [Exit.inBlock,if_true]
 exact k fl (np_of_block np) a w hf ht
theorem c_block (h:cK c=3) (k:CW P W n w0 I (cA c) (Exit.inBlock (cId c) Q) F L):CW P W n w0 I c Q F L:=by
 intro fl np a w hf ht
 have:c = .block (cId c) (cA c):=by cases c <;> first | (simp [cK] at h; done) | rfl | (rename_i d; cases d <;> first | rfl | (simp [cK] at h; done))
 rw [this]
 exact fl.block (k fl (np_block np) a w hf ht)
theorem c_skip (h:cK c=10) (k:QW P W n w0 I .normal Q F L):CW P W n w0 I c Q F L:=by
 intro fl np a w hf ht
 have:c = .skip:=by cases c <;> first | (simp [cK] at h; done) | rfl | (rename_i d; cases d <;> first | rfl | (simp [cK] at h; done))
 rw [this]
 exact fl.skip (k fl np a w hf ht)
theorem c_ret (h:cK c=9) (k:QW P W n w0 I .ret Q F L):CW P W n w0 I c Q F L:=by
 intro fl np a w hf ht
 have:c = .ret:=by cases c <;> first | (simp [cK] at h; done) | rfl | (rename_i d; cases d <;> first | rfl | (simp [cK] at h; done))
 rw [this]
 exact fl.ret (k fl np a w hf ht)
theorem c_exit {i:Nat} (h:cK c=8) (hi:cId c=i) (k:QW P W n w0 I (.exit i) Q F L):CW P W n w0 I c Q F L:=by
 intro fl np a w hf ht
 subst hi
 have:c = .exit (cId c):=by cases c <;> first | (simp [cK] at h; done) | rfl | (rename_i d; cases d <;> first | rfl | (simp [cK] at h; done))
 rw [this]
 exact fl.exit (k fl np a w hf ht)
theorem code_cond (h:cK c=2):c = .cond (cC c) (cA c) (cB c):=by cases c <;> first | (simp [cK] at h; done) | rfl | (rename_i d; cases d <;> first | rfl | (simp [cK] at h; done))
theorem c_cond {t:Bool} (h:cK c=2) (hc:ev F (cC c)=some (.bool t)) (h1:t=true→CW P W n w0 I (cA c) Q F L) (h0:t=false→CW P W n w0 I (cB c) Q F L):CW P W n w0 I c Q F L:=by
 intro fl np a w hf ht
 rw [code_cond h]
 exact fl.cond (hf.ev hc) (fun e=>h1 e fl np a w hf ht) (fun e=>h0 e fl np a w hf ht)
theorem c_cond1 (h:cK c=2) (hc:ev F (cC c)=some (.bool true)) (h1:CW P W n w0 I (cA c) Q F L):CW P W n w0 I c Q F L :=
 c_cond h hc (fun _=>h1) (fun e=>by cases e)
theorem c_cond0 (h:cK c=2) (hc:ev F (cC c)=some (.bool false)) (h0:CW P W n w0 I (cB c) Q F L):CW P W n w0 I c Q F L :=
 c_cond h hc (fun e=>by cases e) (fun _=>h0)
theorem c_frame {F':FL} (hs:∀ j v,look F' j=some v→look F j=some v) (k:CW P W n w0 I c Q F' L):CW P W n w0 I c Q F L :=
 fun fl np a w hf ht=>k fl np a w (hf.sub hs) ht
theorem c_pick {L':HL} (hm:∀ p∈L',p∈L) (hn:(ids L).Nodup→(ids L').Nodup) (k:CW P W n w0 I c Q F L'):CW P W n w0 I c Q F L :=
 fun fl np a w hf ht=>k fl np a w hf (ht.pick hm (hn ht.nodup))
theorem q_pick {e:Exit} {L':HL} (hm:∀ p∈L',p∈L) (hn:(ids L).Nodup→(ids L').Nodup) (k:QW P W n w0 I e Q F L'):QW P W n w0 I e Q F L :=
 fun fl np a w hf ht=>k fl np a w hf (ht.pick hm (hn ht.nodup))
theorem r_ord {l:List Nat} (h:cK c=6) (hnd:noDefer (cOps c)=true) (hl:List.range (cOps c).size=l) (k:SW P W n w0 I (cOps c) Q l F L):CW P W n w0 I c Q F L:=by
 intro fl np a w hf ht
 have:c = .region (cId c) (cOps c) false:=by cases c <;> first | (simp [cK] at h; done) | rfl | (rename_i d; cases d <;> first | rfl | (simp [cK] at h; done))
 rw [this]
 refine fl.ord np hnd ?_
 show wpOps P (cOps c) Q (List.range (cOps c).size) a w
 rw [hl]
 exact k fl np a w hf ht
theorem s_end {ops:Array Oper} (k:QW P W n w0 I .normal Q F L):SW P W n w0 I ops Q [] F L:=fun fl np a w hf ht=>k fl np a w hf ht
theorem s_v {ops:Array Oper} {i d:Nat} {l:List Nat} {o:Oper} {v:Value} (ho:ops[i]?=some o) (hg:o.guard=none) (hd:o.dst=some d) (hn:Nat.blt d n.n=true) (h:OpV P n w0 I o F L v) (k:SW P W n w0 I ops Q l ((d,v) :: F) L):SW P W n w0 I ops Q (i :: l) F L:=by
 intro fl np a w hf ht
 simp only [wpOps,ho]
 rw [if_pos (by simp [Region.wanted,hg])]
 refine .inl ?_
 unfold Oper.wp
 rw [h a w hf ht.toWS,Oper.upon_value,hd]
 exact k fl np _ _ (hf.put (blt_lt hn) v) ht
theorem s_e {ops:Array Oper} {i:Nat} {l:List Nat} {o:Oper} {C:(FL→HL→Prop)→Prop} (ho:ops[i]?=some o) (hg:o.guard=none) (h:OpE P n w0 I o F L C) (k:C (fun F' L'=>SW P W n w0 I ops Q l F' L')):SW P W n w0 I ops Q (i :: l) F L:=by
 intro fl np a w hf ht
 simp only [wpOps,ho]
 rw [if_pos (by simp [Region.wanted,hg])]
 exact .inl (h _ k a w hf ht _ _ np (fun F' L' hx a' w' hf' ht'=>hx fl np a' w' hf' ht'))
def gd (ops:Array Oper) (F:FL) (o:Oper):Option Bool :=
 match o.guard with
 | none=>some true
 | some (j,want)=>match (ops[j]?).bind (·.dst) with
  | some t=>match look F t with
   | some (.bool b)=>some (b == want)
   | some (.tuple _)=>some false
   | _=>none
  | none=>none
theorem gd_wanted {ops:Array Oper} {o:Oper} {a:Act} {b:Bool} (hf:Fr n a F) (h:gd ops F o=some b):Region.wanted o (yielded ops a.tmps)=b:=by
 unfold gd at h
 unfold Region.wanted
 cases hg:o.guard with
 | none=>rw [hg] at h; exact Option.some.inj h
 | some jw =>
  obtain ⟨j,want⟩:=jw
  rw [hg] at h
  dsimp only at h
  cases ht:(ops[j]?).bind (·.dst) with
  | none=>rw [ht] at h; cases h
  | some t =>
   rw [ht] at h
   dsimp only at h
   cases hl:look F t with
   | none=>rw [hl] at h; cases h
   | some u =>
    rw [hl] at h
    cases u <;> first | (cases h; done) | skip
    case tuple x =>
     have hx:=hf.at_ t _ hl
     have:=Option.some.inj h
     subst this
     have hy:yielded ops a.tmps j=none:=by
      simp only [yielded,ht,Option.bind_some]
      rw [Array.getD_eq_getD_getElem?] at hx
      cases hh:a.tmps[t]? with
      | none=>rfl
      | some y=>rw [hh] at hx; simp at hx; rw [hx]
     show (yielded ops a.tmps j == some want)=false
     rw [hy]
     cases want <;> rfl
    rename_i x
    have hx:=hf.at_ t _ hl
    have hlt:a.tmps[t]?=some (.bool x):=by
     rw [Array.getD_eq_getD_getElem?] at hx
     cases hh:a.tmps[t]? with
     | none=>rw [hh] at hx; simp [undef] at hx
     | some y=>rw [hh] at hx; simp at hx; rw [hx]
    simp only [yielded,ht,Option.bind_some,hlt]
    have:=Option.some.inj h
    rw [← this]
    cases x <;> cases want <;> rfl
theorem s_vg {ops:Array Oper} {i d:Nat} {l:List Nat} {o:Oper} {v:Value} (ho:ops[i]?=some o) (hg:gd ops F o=some true) (hd:o.dst=some d) (hn:Nat.blt d n.n=true) (h:OpV P n w0 I o F L v) (k:SW P W n w0 I ops Q l ((d,v) :: F) L):SW P W n w0 I ops Q (i :: l) F L:=by
 intro fl np a w hf ht
 simp only [wpOps,ho]
 rw [if_pos (gd_wanted hf hg)]
 refine .inl ?_
 unfold Oper.wp
 rw [h a w hf ht.toWS,Oper.upon_value,hd]
 exact k fl np _ _ (hf.put (blt_lt hn) v) ht
theorem s_eg {ops:Array Oper} {i:Nat} {l:List Nat} {o:Oper} {C:(FL→HL→Prop)→Prop} (ho:ops[i]?=some o) (hg:gd ops F o=some true) (h:OpE P n w0 I o F L C) (k:C (fun F' L'=>SW P W n w0 I ops Q l F' L')):SW P W n w0 I ops Q (i :: l) F L:=by
 intro fl np a w hf ht
 simp only [wpOps,ho]
 rw [if_pos (gd_wanted hf hg)]
 exact .inl (h _ k a w hf ht _ _ np (fun F' L' hx a' w' hf' ht'=>hx fl np a' w' hf' ht'))
theorem s_no {ops:Array Oper} {i d:Nat} {l:List Nat} {o:Oper} (ho:ops[i]?=some o) (hg:gd ops F o=some false) (hd:o.dst=some d) (hn:Nat.blt d n.n=true) (k:SW P W n w0 I ops Q l ((d,undef) :: F) L):SW P W n w0 I ops Q (i :: l) F L:=by
 intro fl np a w hf ht
 simp only [wpOps,ho]
 rw [if_neg (by rw [gd_wanted hf hg]; decide),hd]
 exact k fl np _ _ (hf.put (blt_lt hn) _) ht
theorem s_splitv {ops:Array Oper} {l:List Nat} {d:Nat} {t:Bool} (hl:look F d=some (.bool t)) (h1:t=true→SW P W n w0 I ops Q l ((d,.bool true) :: F) L) (h0:t=false→SW P W n w0 I ops Q l ((d,.bool false) :: F) L):SW P W n w0 I ops Q l F L:=by
 intro fl np a w hf ht
 cases t with
 | false=>exact h0 rfl fl np a w (hf.sub (sub_cons hl (fun _ _ h=>h))) ht
 | true=>exact h1 rfl fl np a w (hf.sub (sub_cons hl (fun _ _ h=>h))) ht
theorem WS.sub {w:World} {S:HL} (h:Tri w0 I w L) (hs:∀ p∈S,p∈L):WS w0 I w S :=
 { toAgree:=h.toAgree,at_:=fun n o hp=>h.at_ n o (hs _ hp),fact:=fun φ hφ=>(h.facts φ (hs _ hφ)).here }
theorem r_any (S:HL) (hm:P.follows .mixedOrders=true) (h:cK c=7) (hnd:noDefer (cOps c)=true) (hs:∀ p∈S,p∈L) (k:AW P W n w0 I (cOps c) Q S (cOps c).size (Array.replicate (cOps c).size false) F L):CW P W n w0 I c Q F L:=by
 intro fl np a w hf ht
 have:c = .region (cId c) (cOps c) true:=by cases c <;> first | (simp [cK] at h; done) | rfl | (rename_i d; cases d <;> first | rfl | (simp [cK] at h; done))
 rw [this]
 refine fl.any np hnd hm (wpAny_of_held (S:=fun w=>WS w0 I w S) _ _ _ _ ?_)
 exact k fl np a _ hf ht.drew (WS.sub ht.drew hs)
theorem a_end {ops:Array Oper} {S:HL} {fuel:Nat} {listed:Array Bool} (hr:Region.ready .any ops listed=[]) (k:QW P W n w0 I .normal Q F L):AW P W n w0 I ops Q S fuel listed F L :=
 fun fl np a w hf ht hs=>wpAnyH_done hr (k fl np a w hf ht) fuel
theorem a_v {ops:Array Oper} {S:HL} {fuel:Nat} {listed:Array Bool} {d:Nat} {o:Oper} {v:Value} (i:Nat) (hi:ops[i]?=some o) (hs:Region.noSelect ops=true) (hfr:Region.free .any ops listed i=true) (hr:(Region.ready .any ops listed).contains i=true) (hg:gd ops F o=some true) (hd:o.dst=some d) (hn:Nat.blt d n.n=true)
  (h:OpV P n w0 I o F S v) (k:AW P W n w0 I ops Q S fuel (listed.setIfInBounds i true) ((d,v) :: F) L):AW P W n w0 I ops Q S (fuel+1) listed F L:=by
 intro fl np a w hf ht hS
 refine wpAnyH_take hi hs hfr hr (fun c a w hq=>absurd hq (np.1 _ _ _)) (.inl ⟨gd_wanted hf hg,fun w hw=>h a w hf hw⟩) hS ?_
 rw [hd]
 exact k fl np _ _ (hf.put (blt_lt hn) v) ht hS
theorem a_v0 {ops:Array Oper} {S:HL} {fuel:Nat} {listed:Array Bool} {o:Oper} {v:Value} (i:Nat) (hi:ops[i]?=some o) (hs:Region.noSelect ops=true) (hfr:Region.free .any ops listed i=true) (hr:(Region.ready .any ops listed).contains i=true) (hg:gd ops F o=some true) (hd:o.dst=none)
  (h:OpV P n w0 I o F S v) (k:AW P W n w0 I ops Q S fuel (listed.setIfInBounds i true) F L):AW P W n w0 I ops Q S (fuel+1) listed F L:=by
 intro fl np a w hf ht hS
 refine wpAnyH_take hi hs hfr hr (fun c a w hq=>absurd hq (np.1 _ _ _)) (.inl ⟨gd_wanted hf hg,fun w hw=>h a w hf hw⟩) hS ?_
 rw [hd]
 exact k fl np _ _ hf ht hS
theorem a_no {ops:Array Oper} {S:HL} {fuel:Nat} {listed:Array Bool} {d:Nat} {o:Oper} (i:Nat) (hi:ops[i]?=some o) (hs:Region.noSelect ops=true) (hfr:Region.free .any ops listed i=true) (hr:(Region.ready .any ops listed).contains i=true) (hg:gd ops F o=some false) (hd:o.dst=some d) (hn:Nat.blt d n.n=true)
  (k:AW P W n w0 I ops Q S fuel (listed.setIfInBounds i true) ((d,undef) :: F) L):AW P W n w0 I ops Q S (fuel+1) listed F L:=by
 intro fl np a w hf ht hS
 refine wpAnyH_take hi hs hfr hr (fun c a w hq=>absurd hq (np.1 _ _ _)) (.inr ⟨gd_wanted hf hg,rfl⟩) hS ?_
 rw [hd]
 exact k fl np _ _ (hf.put (blt_lt hn) _) ht hS
theorem a_no0 {ops:Array Oper} {S:HL} {fuel:Nat} {listed:Array Bool} {o:Oper} (i:Nat) (hi:ops[i]?=some o) (hs:Region.noSelect ops=true) (hfr:Region.free .any ops listed i=true) (hr:(Region.ready .any ops listed).contains i=true) (hg:gd ops F o=some false) (hd:o.dst=none)
  (k:AW P W n w0 I ops Q S fuel (listed.setIfInBounds i true) F L):AW P W n w0 I ops Q S (fuel+1) listed F L:=by
 intro fl np a w hf ht hS
 refine wpAnyH_take hi hs hfr hr (fun c a w hq=>absurd hq (np.1 _ _ _)) (.inr ⟨gd_wanted hf hg,rfl⟩) hS ?_
 rw [hd]
 exact k fl np _ _ hf ht hS
def AWi (P:Program) (W:Code→(Exit→Act→World→Prop)→Act→World→Prop) (n:Sz) (w0:World) (I:Ix) (ops:Array Oper) (Q:Exit→Act→World→Prop) (S:HL) (fuel:Nat) (listed:Array Bool) (i:Nat) (F:FL) (L:HL):Prop :=
 Flav P W→NP Q→∀ a w,Fr n a F→Tri w0 I w L→WS w0 I w S→wpOp P ops Q i (fun a' w'=>WS w0 I w' S∧wpAnyH P .any ops Q (fun w=>WS w0 I w S) fuel (listed.setIfInBounds i true) a' w') a w
theorem a_1 {ops:Array Oper} {S:HL} {fuel:Nat} {listed:Array Bool} {i:Nat} (hr:Region.ready .any ops listed=[i]) (k:AWi P W n w0 I ops Q S fuel listed i F L):AW P W n w0 I ops Q S (fuel+1) listed F L :=
 fun fl np a w hf ht hS=>wpAnyH_all hr (by simp) (fun j hj=>by obtain rfl:=List.mem_singleton.1 hj; exact k fl np a w hf ht hS)
theorem a_2 {ops:Array Oper} {S:HL} {fuel:Nat} {listed:Array Bool} {i j:Nat} (hr:Region.ready .any ops listed=[i,j]) (k:AWi P W n w0 I ops Q S fuel listed i F L) (k':AWi P W n w0 I ops Q S fuel listed j F L):AW P W n w0 I ops Q S (fuel+1) listed F L :=
 fun fl np a w hf ht hS=>wpAnyH_all hr (by simp) (fun x hx=>by
  simp only [List.mem_cons,List.not_mem_nil,or_false] at hx
  rcases hx with rfl | rfl
  ·exact k fl np a w hf ht hS
  ·exact k' fl np a w hf ht hS)
theorem i_e {ops:Array Oper} {S:HL} {fuel:Nat} {listed:Array Bool} {i:Nat} {o:Oper} {C:(FL→HL→Prop)→Prop} (ho:ops[i]?=some o) (hg:gd ops F o=some true) (h:OpE P n w0 I o F L C) (k:C (fun F' L'=>(∀ p∈S,p∈L')∧AW P W n w0 I ops Q S fuel (listed.setIfInBounds i true) F' L')):AWi P W n w0 I ops Q S fuel listed i F L:=by
 intro fl np a w hf ht hS
 unfold wpOp
 simp only [ho]
 rw [if_pos (gd_wanted hf hg)]
 refine .inl (h _ k a w hf ht _ _ np (fun F' L' hx a' w' hf' ht'=>?_))
 exact ⟨WS.sub ht' hx.1,hx.2 fl np a' w' hf' ht' (WS.sub ht' hx.1)⟩
theorem i_v {ops:Array Oper} {S:HL} {fuel:Nat} {listed:Array Bool} {i d:Nat} {o:Oper} {v:Value} (ho:ops[i]?=some o) (hg:gd ops F o=some true) (hd:o.dst=some d) (hn:Nat.blt d n.n=true) (h:OpV P n w0 I o F L v) (k:AW P W n w0 I ops Q S fuel (listed.setIfInBounds i true) ((d,v) :: F) L):AWi P W n w0 I ops Q S fuel listed i F L:=by
 intro fl np a w hf ht hS
 unfold wpOp
 simp only [ho]
 rw [if_pos (gd_wanted hf hg)]
 refine .inl ?_
 unfold Oper.wp
 rw [h a w hf ht.toWS,Oper.upon_value,hd]
 exact ⟨hS,k fl np _ _ (hf.put (blt_lt hn) v) ht hS⟩
def Con (P:Program) (f:FuncId) (args:Array Value) (w:World) (H:List Nat) (L:HL) (C:(Value→HL→Prop)→Prop):Prop :=
 Tri w ⟨ids L,H⟩ w L→∀ X:Value→HL→Prop,C X→Calls P f args w fun e w'=>∃ v L',e = .returned v∧X v L'∧Tri w ⟨ids L,H⟩ w' L'
def enumF:Nat→List Value→FL
 | _,[]=>[]
 | k,v :: r=>(k,v) :: enumF (k+1) r
theorem look_enumF:∀ (k:Nat) (vs:List Value) (j:Nat) (v:Value),look (enumF k vs) j=some v→k≤j∧vs[j - k]?=some v
 | _,[],_,_,h=>by cases h
 | k,u :: r,j,v,h=>by
  rw [enumF,look_cons] at h
  by_cases hj:k=j
  ·subst hj
   rw [if_pos rfl] at h
   exact ⟨Nat.le_refl _,by simpa using h⟩
  ·rw [if_neg hj] at h
   obtain ⟨h1,h2⟩:=look_enumF (k+1) r j v h
   refine ⟨by omega,?_⟩
   rw [show j - k=(j - (k+1))+1 by omega,List.getElem?_cons_succ]
   exact h2
def Post (X:Value→HL→Prop) (w0:World) (I:Ix):Ending→World→Prop:=fun e w'=>∃ v L',e = .returned v∧X v L'∧Tri w0 I w' L'
theorem con_enter {H:List Nat} {f:FuncId} {fn:Func} {args:Array Value} {C:(Value→HL→Prop)→Prop} (hf:P.funcs[f]?=some fn) (hb:fn.body=some c) {m:Nat} (hm:fn.ntmps=m) (ha:Nat.ble args.size m=true) {F0:FL} (hF:enumF 0 args.toList=F0)
  (k:∀ X,C X→Tri w0 ⟨ids L,H⟩ w0 L→CW P (Code.wp P) ⟨m,[]⟩ w0 ⟨ids L,H⟩ c (bodyPost P fn (Post X w0 ⟨ids L,H⟩)) F0 L):Con P f args w0 H L C:=by
 intro ht X hX
 have ha':args.size≤m:=by simpa using Nat.le_of_ble_eq_true ha
 subst hm hF
 refine calls_of_wp hf hb (k X hX ht (flav_plain P) ⟨fun ch a w hq=>?_,fun a w hq=>?_⟩ _ _ ⟨by simp; omega,rfl,fun j v hv=>?_⟩ ht)
 ·obtain ⟨_,v,L',he,_⟩:=hq
  cases he
 ·obtain ⟨v,L',he,_⟩:=hq
  cases he
 ·obtain ⟨_,h2⟩:=look_enumF 0 args.toList j v hv
  rw [Nat.sub_zero] at h2
  have hlt:j<args.size:=by
   have:=(List.getElem?_eq_some_iff.1 h2).1
   simpa using this
  show (args ++ Array.replicate (fn.ntmps - args.size) undef).getD j undef=v
  rw [Array.getD_eq_getD_getElem?,Array.getElem?_append_left hlt]
  rw [Array.getElem?_toList] at h2
  rw [h2]
  rfl
def packV (vs:List Value):Value:=match vs with | [v]=>v | _ => .tuple vs.toArray
end
end Go.Eng
namespace Go.Eng
open Go.RowKit
set_option linter.unusedVariables false
set_option linter.unusedSimpArgs false
section
variable {P:Program} {n:Sz} {w0:World} {I:Ix} {F:FL} {L:HL} {o:Oper}
theorem v_move {x:Operand} {v:Value} (ho:o.op = .move x) (hx:ev F x=some v):OpV P n w0 I o F L v:=by
 intro a w hf hs
 simp [execOp,ho,hf.ev hx]
theorem v_assign {x:Operand} {v:Value} (ho:o.op = .assign x) (hx:ev F x=some v):OpV P n w0 I o F L v:=by
 intro a w hf hs
 simp [execOp,ho,hf.ev hx]
theorem v_pick {c x y:Operand} {b:Bool} {u v:Value} (ho:o.op = .pick c x y) (hc:ev F c=some (.bool b)) (hx:ev F x=some u) (hy:ev F y=some v):OpV P n w0 I o F L (if b then u else v):=by
 intro a w hf hs
 simp [execOp,ho,hf.ev hc,hf.ev hx,hf.ev hy,asBool]
def notAgg:TypeDesc→Bool
 | .struct _ | .array _ _=>false
 | _=>true
theorem run_isAgg0 {t:TypeId} {d:TypeDesc} (h:P.underlying t=some d) (hd:notAgg d=true) (w:World):(isAgg t).run P w = .ok false w:=by
 unfold isAgg
 rw [Sem.run_bind,run_underlying h]
 cases d <;> first | (simp [notAgg] at hd; done) | simp
theorem run_isAgg1 {t:TypeId} {d:TypeDesc} (h:P.underlying t=some d) (hd:notAgg d=false) (w:World):(isAgg t).run P w = .ok true w:=by
 unfold isAgg
 rw [Sem.run_bind,run_underlying h]
 cases d <;> first | (simp [notAgg] at hd; done) | simp
theorem run_load {w:World} {a:Addr} {v:Value} (h:w.cell? a=some v):(load a).run P w = .ok v w:=by
 simp [load,Sem.run,h]
theorem v_ld {t:TypeId} {x:Operand} {d:TypeDesc} {b off:Nat} {cs:Array Value} {e:TypeId} {fz:Nat × Nat} {v:Value} (i:Nat) (ho:o.op = .load t x) (ht:P.underlying t=some d) (hd:notAgg d=true) (hx:ev F x=some (.pointer (some ⟨b,off,none⟩)))
  (hL:L[i]?=some (.b b (.cells cs e fz))) (hc:cs[off]?=some v):OpV P n w0 I o F L v:=by
 intro a w hf hs
 have h1:w.cell? ⟨b,off,none⟩=some v:=(hs.cell hL off).trans hc
 simp only [execOp,ho,hf.ev hx,Instr.loadAt,Instr.sureAddr,loadVar,Sem.run_bind,Sem.run_pure,Result.andThen_ok,run_isAgg0 ht hd,if_false,Bool.false_eq_true,run_load h1]
theorem run_size {t:TypeId} {m:Nat} (h:(P.info? t).map (·.size)=some m) (w:World):(sizeOf t).run P w = .ok m w:=by
 obtain ⟨i,hi,hm⟩:=Option.map_eq_some_iff.1 h
 unfold sizeOf typeInfo
 simp [program,Sem.run,hi,hm]
theorem run_cells {w:World} {b off:Nat} {vs:List Value} (h:∀ j v,vs[j]?=some v→w.cell? ⟨b,off+j,none⟩=some v):(loadCells ⟨b,off,none⟩ vs.length).run P w = .ok vs.toArray w:=by
 refine run_loadCells_list w _ vs (fun j v hv=>?_)
 have:=h j v hv
 unfold Addr.add
 split
 ·rename_i h0; subst h0; simpa using this
 ·exact this
theorem v_ldA {t:TypeId} {x:Operand} {d:TypeDesc} {b off m:Nat} {cs:Array Value} {e:TypeId} {fz:Nat × Nat} (vs:List Value) (i:Nat) (ho:o.op = .load t x) (ht:P.underlying t=some d) (hd:notAgg d=false) (hm:(P.info? t).map (·.size)=some m) (hx:ev F x=some (.pointer (some ⟨b,off,none⟩)))
  (hL:L[i]?=some (.b b (.cells cs e fz))) (hl:vs.length=m) (hc:(cs.toList.drop off).take m=vs):OpV P n w0 I o F L (.agg vs.toArray):=by
 intro a w hf hs
 have h1:∀ j v,vs[j]?=some v→w.cell? ⟨b,off+j,none⟩=some v:=by
  intro j v hv
  rw [hs.cell hL]
  rw [← hc,List.getElem?_take] at hv
  split at hv
  ·rw [List.getElem?_drop] at hv
   simpa using hv
  ·cases hv
 have h2:=run_cells (P:=P) (w:=w) h1
 rw [hl] at h2
 simp only [execOp,ho,hf.ev hx,Instr.loadAt,Instr.sureAddr,loadVar,Sem.run_bind,Sem.run_pure,Result.andThen_ok,run_isAgg1 ht hd,if_true,run_size hm,h2]
theorem v_fa {s:TypeId} {x:Operand} {f:Nat} {fs:Array Field} {fd:Field} {b off m:Nat} (ho:o.op = .fieldAddr s x f) (hs':P.underlying s=some (.struct fs)) (hf':fs[f]?=some fd) (hm:(P.info? fd.type).map (·.size)=some (m+1)) (hx:ev F x=some (.pointer (some ⟨b,off,none⟩))):OpV P n w0 I o F L (.pointer (some ⟨b,off+fd.offset,none⟩)):=by
 intro a w hf hs
 simp only [execOp,ho,hf.ev hx,Instr.fieldAt,Instr.sureAddr,Sem.run_bind,Sem.run_pure,Result.andThen_ok,run_underlying hs',hf',fieldPlace,run_size hm,Nat.add_eq_zero_iff,Nat.one_ne_zero,and_false,if_false]
 congr 4
 unfold Addr.add
 split
 ·rename_i h0; rw [h0]; rfl
 ·rfl
theorem v_nil {x:Operand} {ad:Addr} (ho:o.op = .nilCheck x) (hx:ev F x=some (.pointer (some ad))):OpV P n w0 I o F L (.pointer (some ad)):=by
 intro a w hf hs
 simp [execOp,ho,hf.ev hx]
theorem v_nilF {x:Operand} {f:FuncId} {fst cap:Array Value} (ho:o.op = .nilCheck x) (hx:ev F x=some (.func (.func f) fst cap)):OpV P n w0 I o F L (.func (.func f) fst cap):=by
 intro a w hf hs
 simp [execOp,ho,hf.ev hx]
theorem v_arith {op:BinOp} {t t':TypeId} {x y:Operand} {k:IntKind} {m q:Int} {v:Value} (ho:o.op = .binOp op t x y t') (hx:ev F x=some (.int k m)) (hy:ev F y=some (.int k q))
  (h:(match op with | .add=>some (Value.int k (k.wrap (m+q))) | .sub=>some (Value.int k (k.wrap (m - q))) | .mul=>some (Value.int k (k.wrap (m * q))) | .eql=>some (.bool (m == q)) | .neq=>some (.bool (m != q)) | .lss=>some (.bool (decide (m<q))) | .leq=>some (.bool (decide (m≤q))) | .gtr=>some (.bool (decide (m > q))) | .geq=>some (.bool (decide (m≥q))) | _=>none)=some v):OpV P n w0 I o F L v:=by
 intro a w hf hs
 cases op <;> simp only [reduceCtorEq] at h <;> have h':=Option.some.inj h <;> subst h' <;>
  simp [execOp,ho,hf.ev hx,hf.ev hy,eqGuard,binOp,Op.intArith,Op.intCmp]
theorem v_div {t t':TypeId} {x y:Operand} {k:IntKind} {m q:Int} (ho:o.op = .binOp .quo t x y t') (hx:ev F x=some (.int k m)) (hy:ev F y=some (.int k q)) (hq:q≠0):OpV P n w0 I o F L (.int k (k.wrap (m.tdiv q))):=by
 intro a w hf hs
 simp [execOp,ho,hf.ev hx,hf.ev hy,eqGuard,binOp,Op.intDiv,hq]
theorem v_rem {t t':TypeId} {x y:Operand} {k:IntKind} {m q:Int} (ho:o.op = .binOp .rem t x y t') (hx:ev F x=some (.int k m)) (hy:ev F y=some (.int k q)) (hq:q≠0):OpV P n w0 I o F L (.int k (m.tmod q)):=by
 intro a w hf hs
 simp [execOp,ho,hf.ev hx,hf.ev hy,eqGuard,binOp,Op.intDiv,hq]
theorem v_bits {op:BinOp} {t t':TypeId} {x y:Operand} {k:IntKind} {m q:Int} {v:Value} (ho:o.op = .binOp op t x y t') (hx:ev F x=some (.int k m)) (hy:ev F y=some (.int k q))
  (h:(match op with | .and=>some (Value.int k (k.wrap (BitVec.ofInt k.bits m &&& BitVec.ofInt k.bits q).toNat)) | .or=>some (Value.int k (k.wrap (BitVec.ofInt k.bits m ||| BitVec.ofInt k.bits q).toNat)) | .xor=>some (Value.int k (k.wrap (BitVec.ofInt k.bits m ^^^ BitVec.ofInt k.bits q).toNat)) | .andNot=>some (Value.int k (k.wrap (BitVec.ofInt k.bits m &&& ~~~ BitVec.ofInt k.bits q).toNat)) | _=>none)=some v):OpV P n w0 I o F L v:=by
 intro a w hf hs
 cases op <;> simp only [reduceCtorEq] at h <;> have h':=Option.some.inj h <;> subst h' <;>
  simp [execOp,ho,hf.ev hx,hf.ev hy,eqGuard,binOp,Op.intBits]
theorem v_shl {t t':TypeId} {x y:Operand} {k k':IntKind} {m q:Int} (ho:o.op = .binOp .shl t x y t') (hx:ev F x=some (.int k m)) (hy:ev F y=some (.int k' q)) (hq:0≤q):OpV P n w0 I o F L (.int k (k.wrap (m * 2 ^ (min q.toNat k.bits)))):=by
 intro a w hf hs
 have:¬ q<0:=by omega
 simp [execOp,ho,hf.ev hx,hf.ev hy,eqGuard,binOp,Op.shift,this]
theorem v_shr {t t':TypeId} {x y:Operand} {k k':IntKind} {m q:Int} (ho:o.op = .binOp .shr t x y t') (hx:ev F x=some (.int k m)) (hy:ev F y=some (.int k' q)) (hq:0≤q):OpV P n w0 I o F L (.int k (m.fdiv (2 ^ (min q.toNat k.bits)))):=by
 intro a w hf hs
 have:¬ q<0:=by omega
 simp [execOp,ho,hf.ev hx,hf.ev hy,eqGuard,binOp,Op.shift,this]
theorem v_not {t:TypeId} {x:Operand} {b:Bool} (ho:o.op = .unOp .not t x) (hx:ev F x=some (.bool b)):OpV P n w0 I o F L (.bool !b):=by
 intro a w hf hs
 simp [execOp,ho,hf.ev hx,Op.unary]
theorem v_conv {t u:TypeId} {x:Operand} {d:TypeDesc} {k k':IntKind} {m:Int} (ho:o.op = .convert t u x) (ht:P.underlying t=some d) (hu:P.underlying u=some (.int k)) (hx:ev F x=some (.int k' m)):OpV P n w0 I o F L (.int k (k.wrap m)):=by
 intro a w hf hs
 simp [execOp,ho,hf.ev hx,convert,run_underlying ht,run_underlying hu,Conv.intToInt]
theorem v_ext {x:Operand} {j:Nat} {vs:Array Value} {v:Value} (ho:o.op = .extract x j) (hx:ev F x=some (.tuple vs)) (hv:vs[j]?=some v):OpV P n w0 I o F L v:=by
 intro a w hf hs
 simp [execOp,ho,hf.ev hx,Instr.extract,hv]
theorem v_mf {fn:Fn} {fst cap:Array Operand} {us vs:List Value} (ho:o.op = .makeFunc fn fst cap) (h1:evs F fst.toList=some us) (h2:evs F cap.toList=some vs):OpV P n w0 I o F L (.func fn us.toArray vs.toArray):=by
 intro a w hf hs
 have e1:fst.map a.eval=us.toArray:=Array.toList_inj.1 (by simpa using hf.evs h1)
 have e2:cap.map a.eval=vs.toArray:=Array.toList_inj.1 (by simpa using hf.evs h2)
 simp [execOp,ho,Instr.makeFunc,e1,e2]
theorem v_ia {t e:TypeId} {x y:Operand} {ad:Addr} {len cap m:Nat} {k:IntKind} {j:Int} (ho:o.op = .indexAddr t x y) (ht:P.underlying t=some (.slice e)) (hm:(P.info? e).map (·.size)=some m) (hx:ev F x=some (.slice (some ad) len cap)) (hy:ev F y=some (.int k j)) (h0:0≤j) (h1:j<len):OpV P n w0 I o F L (.pointer (some (ad.add (j.toNat * m)))):=by
 intro a w hf hs
 simp [execOp,ho,hf.ev hx,hf.ev hy,Instr.indexAt,asIntOf,run_underlying ht,h0,h1,run_size hm]
theorem v_iaA {t e:TypeId} {x y:Operand} {ad:Addr} {len m:Nat} {k:IntKind} {j:Int} (ho:o.op = .indexAddr t x y) (ht:P.underlying t=some (.array len e)) (hm:(P.info? e).map (·.size)=some m) (hx:ev F x=some (.pointer (some ad))) (hy:ev F y=some (.int k j)) (h0:0≤j) (h1:j<len):OpV P n w0 I o F L (.pointer (some (ad.add (j.toNat * m)))):=by
 intro a w hf hs
 simp [execOp,ho,hf.ev hx,hf.ev hy,Instr.indexAt,asIntOf,run_underlying ht,Instr.sureAddr,h0,h1,run_size hm]
theorem v_fld {t:TypeId} {x:Operand} {f:Nat} {fs:Array Field} {fd:Field} {d:TypeDesc} {cs:Array Value} {v:Value} (ho:o.op = .field t x f) (ht:P.underlying t=some (.struct fs)) (hf':fs[f]?=some fd) (hu:P.underlying fd.type=some d) (hd:notAgg d=true) (hx:ev F x=some (.agg cs)) (hv:cs[fd.offset]?=some v):OpV P n w0 I o F L v:=by
 intro a w hf hs
 simp [execOp,ho,hf.ev hx,Instr.field,asAgg,run_underlying ht,hf',part,run_isAgg0 hu hd,hv]
theorem v_fldA {t:TypeId} {x:Operand} {f:Nat} {fs:Array Field} {fd:Field} {d:TypeDesc} {cs:Array Value} {m:Nat} (vs:Array Value) (ho:o.op = .field t x f) (ht:P.underlying t=some (.struct fs)) (hf':fs[f]?=some fd) (hu:P.underlying fd.type=some d) (hd:notAgg d=false) (hm:(P.info? fd.type).map (·.size)=some m) (hx:ev F x=some (.agg cs)) (hv:cs.extract fd.offset (fd.offset+m)=vs):OpV P n w0 I o F L (.agg vs):=by
 intro a w hf hs
 simp [execOp,ho,hf.ev hx,Instr.field,asAgg,run_underlying ht,hf',part,run_isAgg1 hu hd,run_size hm,hv]
theorem v_build {t:TypeId} {ps:Array (Nat × Operand)} {fs:Array Field} {z:Value} {places:Array (Nat × Nat)} {us:List Value} (cs:Array Value) (ho:o.op = .build t ps) (hz:(P.info? t).bind (·.zero)=some z) (ht:P.underlying t=some (.struct fs)) (hp:fs.toList.mapM (fun f=>(P.info? f.type).map fun i=>(f.offset,i.size))=some places.toList)
  (hu:evs F (ps.toList.map (·.2))=some us) (hc:Instr.fill (places[·]?) z.cells ((ps.toList.map (·.1)).zip us)=some cs):OpV P n w0 I o F L (.agg cs):=by
 intro a w hf hs
 obtain ⟨i,hi,hzz⟩:=Option.bind_eq_some_iff.1 hz
 have e1:(ps.map fun (i,x)=>(i,a.eval x)).toList=(ps.toList.map (·.1)).zip us:=by
  rw [← hf.evs hu]
  simp [List.zip_map',Function.comp_def]
 have key:∀ (l:List Field) (q:List (Nat × Nat)),l.mapM (fun f=>(P.info? f.type).map fun i=>(f.offset,i.size))=some q→(l.mapM (m:=Sem) fun f=>do pure (f.offset,← sizeOf f.type)).run P w = .ok q w:=by
  intro l
  induction l with
  | nil=>intro q hq; simp at hq; subst hq; simp
  | cons f r ih =>
   intro q hq
   simp only [List.mapM_cons,Option.bind_eq_bind,Option.bind_eq_some_iff] at hq
   obtain ⟨y,hy,q',hq',e⟩:=hq
   obtain ⟨inf,hinf,rfl⟩:=Option.map_eq_some_iff.1 hy
   have:=Option.some.inj e
   subst this
   simp only [List.mapM_cons,Sem.run_bind,Sem.run_pure,Result.andThen_ok,ih q' hq',run_size (show (P.info? f.type).map (·.size)=some inf.size by rw [hinf]; rfl)]
 have k:=key fs.toList places.toList hp
 have hzv:(zeroValue t).run P w = .ok z w:=by
  unfold zeroValue typeInfo
  simp [program,Sem.run,hi,hzz]
 obtain ⟨fl⟩:=fs
 obtain ⟨pl⟩:=places
 simp only [execOp,ho,Instr.build,Sem.run_bind,Sem.run_pure,Result.andThen_ok,hzv,run_underlying ht,List.mapM_toArray,Sem.run_map,k,e1]
 have hc':Instr.fill (fun x=>pl[x]?) z.cells ((ps.toList.map (·.1)).zip us)=some cs:=by simpa using hc
 simp [hc']
theorem e_alloc {t:TypeId} {z:Value} {d:Nat} (ho:o.op = .alloc t) (hd:o.dst=some d) (hn:Nat.blt d n.n=true) (hz:(P.info? t).bind (·.zero)=some z) :
  OpE P n w0 I o F L (fun X=>∀ b,X ((d,.pointer (some ⟨b,0,none⟩)) :: F) (.b b (.cells z.cells t (0,0)) :: L)):=by
 intro X hX a w hf ht K Q np hK
 obtain ⟨i,hi,hzz⟩:=Option.bind_eq_some_iff.1 hz
 have hr:(execOp a.eval o).run P w = .ok (.value (.pointer (some ⟨w.heap.size,0,none⟩))) { w with heap:=w.heap.push (.cells z.cells t) }:=by
  simp [execOp,ho,Instr.alloc,zeroValue,typeInfo,program,Sem.run,hi,hzz,newVar,newRow,newObj]
 unfold Oper.wp
 rw [hr,Oper.upon_value,hd]
 exact hK _ _ (hX w.heap.size) _ _ (hf.put (blt_lt hn) _) (ht.alloc _)
theorem e_box {t:TypeId} {x:Operand} {v:Value} {d:Nat} (ho:o.op = .box t x) (hd:o.dst=some d) (hn:Nat.blt d n.n=true) (hx:ev F x=some v) :
  OpE P n w0 I o F L (fun X=>∀ b,X ((d,.pointer (some ⟨b,0,none⟩)) :: F) (.b b (.cells v.cells t (0,0)) :: L)):=by
 intro X hX a w hf ht K Q np hK
 have hr:(execOp a.eval o).run P w = .ok (.value (.pointer (some ⟨w.heap.size,0,none⟩))) { w with heap:=w.heap.push (.cells v.cells t) }:=by
  simp [execOp,ho,hf.ev hx,Instr.box,Sem.run,newVar,newRow,newObj]
 unfold Oper.wp
 rw [hr,Oper.upon_value,hd]
 exact hK _ _ (hX w.heap.size) _ _ (hf.put (blt_lt hn) _) (ht.alloc _)
def one:Value→Bool
 | .agg _ | .tuple _=>false
 | _=>true
theorem e_st {t:TypeId} {x y:Operand} {b off:Nat} {cs:Array Value} {e:TypeId} {v:Value} (i:Nat) (ho:o.op = .store t x y) (hd:o.dst=none) (hm:(P.info? t).map (·.size)=some 1) (hx:ev F x=some (.pointer (some ⟨b,off,none⟩))) (hy:ev F y=some v) (hv:one v=true)
  (hL:L[i]?=some (.b b (.cells cs e (0,0)))) (hc:off<cs.size):OpE P n w0 I o F L (fun X=>X F (L.set i (.b b (.cells (cs.setIfInBounds off v) e (0,0))))):=by
 intro X hX a w hf ht K Q np hK
 have hcell:w.cell? ⟨b,off,none⟩=some cs[off]:=by rw [ht.toWS.cell hL]; simp [hc]
 have hfz:w.frozen? ⟨b,off,none⟩=false:=by simp [World.frozen?,ht.toWS.get hL]
 have hcv:v.cells=#[v]:=by cases v <;> simp [one] at hv <;> rfl
 have hr:(execOp a.eval o).run P w = .ok .skip (w.setCell ⟨b,off,none⟩ v):=by
  simp only [execOp,ho,hf.ev hx,hf.ev hy,Instr.storeAt,Instr.sureAddr,storeVar,hcv,Sem.run_bind,Sem.run_pure,Result.andThen_ok,run_size hm]
  cases v <;> first | (simp [one] at hv; done) | simp [storeCells,store,Sem.run,Addr.add,hcell,hfz]
 unfold Oper.wp
 rw [hr,Oper.upon_skip,hd]
 exact hK _ _ hX _ _ hf (ht.setCell hL off v)
end
def pick (L:HL):List Nat→Option HL
 | []=>some []
 | i :: r=>match L[i]?,pick L r with
  | some p,some q=>some (p :: q)
  | _,_=>none
theorem mem_pick {L:HL}:∀ {idx:List Nat} {L':HL},pick L idx=some L'→∀ p∈L',p∈L
 | [],L',h,p,hp=>by simp [pick] at h; subst h; cases hp
 | i :: r,L',h,p,hp=>by
  simp only [pick] at h
  cases h1:L[i]? with
  | none=>rw [h1] at h; cases h
  | some q=>cases h2:pick L r with
   | none=>rw [h1,h2] at h; cases h
   | some q' =>
    rw [h1,h2] at h
    have:=Option.some.inj h
    subst this
    rcases List.mem_cons.1 hp with rfl | hp
    ·exact List.mem_of_getElem? h1
    ·exact mem_pick h2 p hp
theorem pick_sub {L:HL}:∀ {idx:List Nat} {L':HL},pick L idx=some L'→∀ n∈ids L',∃ i∈idx,∃ o,L[i]?=some (.b n o)
 | [],L',h,n,hn=>by simp [pick] at h; subst h; simp [ids] at hn
 | i :: r,L',h,n,hn=>by
  simp only [pick] at h
  cases h1:L[i]? with
  | none=>rw [h1] at h; cases h
  | some q=>cases h2:pick L r with
   | none=>rw [h1,h2] at h; cases h
   | some q' =>
    rw [h1,h2] at h
    have:=Option.some.inj h
    subst this
    cases q with
    | b m o =>
     rw [ids_b] at hn
     rcases List.mem_cons.1 hn with rfl | hn
     ·exact ⟨i,List.mem_cons_self,o,h1⟩
     ·obtain ⟨j,hj,e⟩:=pick_sub h2 n hn
      exact ⟨j,List.mem_cons_of_mem _ hj,e⟩
    | f φ =>
     rw [ids_f] at hn
     obtain ⟨j,hj,e⟩:=pick_sub h2 n hn
     exact ⟨j,List.mem_cons_of_mem _ hj,e⟩
theorem nodup_idx {L:HL} (h:(ids L).Nodup) {i j n:Nat} {o u:Obj} (hi:L[i]?=some (.b n o)) (hj:L[j]?=some (.b n u)):i=j:=by
 induction L generalizing i j with
 | nil=>cases hi
 | cons e r ih =>
  cases i with
  | zero =>
   cases j with
   | zero=>rfl
   | succ j =>
    simp at hi hj
    subst hi
    rw [ids_b,List.nodup_cons] at h
    exact absurd (mem_ids.2 ⟨u,List.mem_of_getElem? hj⟩) h.1
  | succ i =>
   have hnr:(ids r).Nodup:=by
    cases e with
    | b m q=>rw [ids_b,List.nodup_cons] at h; exact h.2
    | f φ=>rw [ids_f] at h; exact h
   cases j with
   | zero =>
    simp at hi hj
    subst hj
    rw [ids_b,List.nodup_cons] at h
    exact absurd (mem_ids.2 ⟨o,List.mem_of_getElem? hi⟩) h.1
   | succ j=>exact congrArg (·+1) (ih hnr (by simpa using hi) (by simpa using hj))
theorem pick_nodup {L:HL} (hn:(ids L).Nodup):∀ {idx:List Nat} {L':HL},pick L idx=some L'→idx.Nodup→(ids L').Nodup
 | [],L',h,_=>by simp [pick] at h; subst h; simp [ids]
 | i :: r,L',h,hi=>by
  simp only [pick] at h
  cases h1:L[i]? with
  | none=>rw [h1] at h; cases h
  | some q=>cases h2:pick L r with
   | none=>rw [h1,h2] at h; cases h
   | some q' =>
    rw [h1,h2] at h
    have:=Option.some.inj h
    subst this
    rw [List.nodup_cons] at hi
    have ih:=pick_nodup hn h2 hi.2
    cases q with
    | f φ=>rw [ids_f]; exact ih
    | b m o =>
     rw [ids_b,List.nodup_cons]
     refine ⟨fun hm=>?_,ih⟩
     obtain ⟨j,hj,u,hju⟩:=pick_sub h2 m hm
     have:=nodup_idx hn h1 hju
     subst this
     exact hi.1 hj
theorem pick_app {L:HL}:∀ {a b:List Nat} {L1 L2:HL},pick L a=some L1→pick L b=some L2→pick L (a ++ b)=some (L1 ++ L2)
 | [],b,L1,L2,h1,h2=>by simp [pick] at h1; subst h1; simpa using h2
 | i :: r,b,L1,L2,h1,h2=>by
  simp only [pick] at h1
  cases e1:L[i]? with
  | none=>rw [e1] at h1; cases h1
  | some q=>cases e2:pick L r with
   | none=>rw [e1,e2] at h1; cases h1
   | some q' =>
    rw [e1,e2] at h1
    have:=Option.some.inj h1
    subst this
    simp only [List.cons_append,pick,e1,pick_app e2 h2]
section
variable {P:Program} {W:Code→(Exit→Act→World→Prop)→Act→World→Prop} {n:Sz} {w0:World} {I:Ix} {F:FL} {L:HL} {o:Oper} {Q:Exit→Act→World→Prop}
theorem q_take {e:Exit} {L':HL} (idx:List Nat) (h:pick L idx=some L') (hi:idx.Nodup) (k:QW P W n w0 I e Q F L'):QW P W n w0 I e Q F L :=
 q_pick (mem_pick h) (fun hn=>pick_nodup hn h hi) k
theorem c_take {c:Code} {L':HL} (idx:List Nat) (h:pick L idx=some L') (hi:idx.Nodup) (k:CW P W n w0 I c Q F L'):CW P W n w0 I c Q F L :=
 c_pick (mem_pick h) (fun hn=>pick_nodup hn h hi) k
theorem tri_give {w:World} {L':HL} {g:Nat} {o':Obj} {φ:World→Prop} (ht:Tri w0 I w L) (idx:List Nat) (hp:pick L idx=some (.b g o' :: L')) (hi:idx.Nodup) (hI:g ∉ I.own) (hφ:∀ w,w.heap[g]?=some o'→φ w):Tri w0 I w (.f φ :: L'):=by
 have h1:=(ht.pick (mem_pick hp) (pick_nodup ht.nodup hp hi)).give hI
 refine { toAgree:=h1.toAgree,at_:=fun k u hk=>h1.at_ k u ?_,own:=fun k hk=>h1.own k (by rw [ids_f] at hk ⊢; exact hk),nodup:=(by have:=h1.nodup; rw [ids_f] at this ⊢; exact this),facts:=fun ψ hψ=>?_,hol:=h1.hol }
 ·rcases List.mem_cons.1 hk with h | h
  ·cases h
  ·exact List.mem_cons_of_mem _ h
 ·rw [ids_f]
  rcases List.mem_cons.1 hψ with h | h
  ·injection h with e
   subst e
   have:=h1.facts _ List.mem_cons_self
   rw [ids_f] at this
   exact fun w' ha=>hφ w' (this w' ha)
  ·have:=h1.facts ψ (List.mem_cons_of_mem _ h)
   rwa [ids_f] at this
theorem q_give {e:Exit} {L':HL} {g:Nat} {o':Obj} {φ:World→Prop} (idx:List Nat) (hp:pick L idx=some (.b g o' :: L')) (hi:idx.Nodup) (hI:g ∉ I.own) (hφ:∀ w,w.heap[g]?=some o'→φ w) (k:QW P W n w0 I e Q F (.f φ :: L')):QW P W n w0 I e Q F L :=
 fun fl np a w hf ht=>k fl np a w hf (tri_give ht idx hp hi hI hφ)
theorem q_know {e:Exit} {φ:World→Prop} (hφ:∀ w,φ w) (k:QW P W n w0 I e Q F (.f φ :: L)):QW P W n w0 I e Q F L :=
 fun fl np a w hf ht=>k fl np a w hf (ht.know (fun w' _=>hφ w'))
theorem run_callFunc {g : FuncId} {fn : Func} (hf : P.funcs[g]? = some fn) (hb : fn.body.isNone = false) (hname : (fn.name == "runtime.NumGoroutine") = false) (vs : Array Value) (w : World) : (callFunc g vs).run P w = .ok (.enter g vs) w := by
  unfold callFunc
  have h1 : ¬ fn.name = "runtime.NumGoroutine" := by simpa using hname
  have h2:¬ fn.body=none:=by intro e; rw [e] at hb; cases hb
  simp [program,Sem.run,hf,h1,h2]
theorem e_call {c:Call} {x:Operand} {g:FuncId} {fn:Func} {fst cap:Array Value} {vs:List Value} {d:Nat} {L1 L2:HL} {C:(Value→HL→Prop)→Prop} (idx rest:List Nat) (args:Array Value) (ho:o.op = .call c) (hc:c.callee = .value x) (hx:ev F x=some (.func (.func g) fst cap)) (hv:evs F c.args.toList=some vs) (hargs:fst ++ vs.toArray ++ cap=args)
    (hf : P.funcs[g]? = some fn) (hb : fn.body.isNone = false) (hname : (fn.name == "runtime.NumGoroutine") = false) (hd : o.dst = some d) (hn : Nat.blt d n.n = true) (h1 : pick L idx = some L1) (h2 : pick L rest = some L2) (hi : (idx ++ rest).Nodup)
    (hcon:∀ w,Tri w0 I w L→Con P g args w (I.holes ++ ids L2) L1 C):OpE P n w0 I o F L (fun X=>C (fun v L1'=>X ((d,v) :: F) (L1' ++ L2))):=by
  intro X hX a w hfr ht K Q np hK
  have e1:c.args.map a.eval=vs.toArray:=Array.toList_inj.1 (by simpa using hfr.evs hv)
  have hr:(execOp a.eval o).run P w = .ok (.enter g args) w:=by
    simp only [execOp,ho,resolve,hc,e1,hfr.ev hx,Deferred.ofValue,Sem.run_bind,Sem.run_pure,Result.andThen_ok,invoke,hargs,run_callFunc hf hb hname]
  have h12:∀ p∈L1 ++ L2,p∈L:=mem_pick (pick_app h1 h2)
  have hnd:=pick_nodup ht.nodup (pick_app h1 h2) hi
  have h:=hcon w ht (ht.here h12 hnd) _ hX
  unfold Oper.wp
  rw [hr,Oper.upon_enter]
  refine h.mono ?_
  rintro e w' ⟨v,L',rfl,hx',ht'⟩
  show K (a.put o.dst v) w'
  rw [hd]
  exact hK _ _ hx' _ _ (hfr.put (blt_lt hn) v) (ht.trans h12 hnd ht')
theorem run_storeCells_w {b off:Nat} {e:TypeId}:∀ (vs:List Value) (i:Nat) (cs:Array Value) (w:World),w.heap[b]?=some (.cells cs e (0,0))→off+i+vs.length≤cs.size→(∀ v∈vs,one v=true) →
  ∃ H cs',(storeCells ⟨b,off,none⟩ vs i).run P w = .ok () { w with heap:=H }∧H.size=w.heap.size∧H[b]?=some (.cells cs' e (0,0))∧(∀ k,k≠b→H[k]?=w.heap[k]?)∧cs'.size=cs.size∧cs'.toList=cs.toList.take (off+i) ++ vs ++ cs.toList.drop (off+i+vs.length)
 | [],i,cs,w,hb,hl,hv=>by
  refine ⟨w.heap,cs,by simp [storeCells],rfl,hb,fun _ _=>rfl,rfl,by simp⟩
 | v :: r,i,cs,w,hb,hl,hv=>by
  have ho:=hv v List.mem_cons_self
  simp only [List.length_cons] at hl
  have hadd:(⟨b,off,none⟩:Addr).add i=⟨b,off+i,none⟩:=by unfold Addr.add; split <;> simp_all
  have hcell:w.cell? ⟨b,off+i,none⟩=some cs[off+i]:=by simp [World.cell?,hb]
  have hfz:w.frozen? ⟨b,off+i,none⟩=false:=by simp [World.frozen?,hb]
  have hb':(w.setCell ⟨b,off+i,none⟩ v).heap[b]?=some (.cells (cs.setIfInBounds (off+i) v) e (0,0)):=by simp [World.setCell,Array.getElem?_modify,hb]
  obtain ⟨H,cs',h1,h2,h3,h4,h5,h6⟩:=run_storeCells_w (off:=off) r (i+1) (cs.setIfInBounds (off+i) v) (w.setCell ⟨b,off+i,none⟩ v) hb' (by simp; omega) (fun u hu=>hv u (List.mem_cons_of_mem _ hu))
  refine ⟨H,cs',?_,by rw [h2]; simp [World.setCell],h3,fun k hk=>?_,by rw [h5]; simp,?_⟩
  ·have:(store ⟨b,off+i,none⟩ v).run P w = .ok () (w.setCell ⟨b,off+i,none⟩ v):=by
    cases v <;> first | (simp [one] at ho; done) | simp [store,Sem.run,hcell,hfz]
   simp only [storeCells,hadd,Sem.run_bind,this,Result.andThen_ok,h1]
   rfl
  ·rw [h4 k hk]
   simp only [World.setCell,Array.getElem?_modify]
   rw [if_neg (by omega)]
  ·rw [h6]
   simp only [Array.toList_setIfInBounds,List.length_cons]
   have hlt:off+i<cs.toList.length:=by simp; omega
   rw [show off+(i+1)=off+i+1 by omega,List.take_succ_eq_append_getElem (by simpa using hlt),List.getElem_set_self,List.take_set_of_le (by omega),List.drop_set_of_lt (by omega)]
   simp [Nat.add_assoc,Nat.add_comm 1]
theorem e_stA {t:TypeId} {x y:Operand} {b off m:Nat} {cs vs:Array Value} {e:TypeId} (i:Nat) (ho:o.op = .store t x y) (hd:o.dst=none) (hm:(P.info? t).map (·.size)=some m) (hx:ev F x=some (.pointer (some ⟨b,off,none⟩))) (hy:ev F y=some (.agg vs)) (hv:vs.toList.all one=true) (hs:vs.size=m)
  (hL:L[i]?=some (.b b (.cells cs e (0,0)))) (hc:Nat.ble (off+m) cs.size=true):OpE P n w0 I o F L (fun X=>X F (L.set i (.b b (.cells (cs.toList.take off ++ vs.toList ++ cs.toList.drop (off+vs.toList.length)).toArray e (0,0))))):=by
 intro X hX a w hf ht K Q np hK
 have hc':off+m≤cs.size:=Nat.le_of_ble_eq_true hc
 obtain ⟨H,cs',h1,h2,h3,h4,h5,h6⟩:=run_storeCells_w (P:=P) (off:=off) vs.toList 0 cs w (ht.toWS.get hL) (by simp; omega) (fun v hv'=>by simpa using (List.all_eq_true.1 hv) v hv')
 have hcs:cs'=(cs.toList.take off ++ vs.toList ++ cs.toList.drop (off+vs.toList.length)).toArray:=by
  apply Array.toList_inj.1
  rw [h6]
  simp
 have hr:(execOp a.eval o).run P w = .ok .skip { w with heap:=H }:=by
  simp only [execOp,ho,hf.ev hx,hf.ev hy,Instr.storeAt,Instr.sureAddr,storeVar,Value.cells,Sem.run_bind,Sem.run_pure,Result.andThen_ok,run_size hm,hs,ne_eq,not_true,if_false,h1]
 unfold Oper.wp
 rw [hr,Oper.upon_skip,hd]
 exact hK _ _ hX _ _ hf (ht.setObj hL h2 (by rw [h3,hcs]) h4)
theorem v_len {c:Call} {t:TypeId} {e:TypeId} {x:Operand} {ad:Option Addr} {len cap:Nat} (ho:o.op = .call c) (hc:c.callee = .builtin .len) (htt:c.argTypes[0]?=some t) (ht:P.underlying t=some (.slice e)) (hx:ev F x=some (.slice ad len cap)) (ha:c.args=#[x]):OpV P n w0 I o F L (.int .i64 len):=by
 intro a w hf hs
 simp [execOp,ho,resolve,hc,ha,hf.ev hx,invoke,builtin,Builtin.len_,htt,run_underlying ht,goInt]
theorem v_max {c:Call} {k:IntKind} {x y:Operand} {m q:Int} (ho:o.op = .call c) (hc:c.callee = .builtin .max) (hv:evs F c.args.toList=some [.int k m,.int k q]):OpV P n w0 I o F L (.int k (if m<q then q else m)):=by
 intro a w hf hs
 have e1:c.args.map a.eval=#[.int k m,.int k q]:=by apply Array.toList_inj.1; simpa using hf.evs hv
 simp [execOp,ho,resolve,hc,e1,invoke,builtin,Builtin.max_,Builtin.max2]
theorem v_min {c:Call} {k:IntKind} {x y:Operand} {m q:Int} (ho:o.op = .call c) (hc:c.callee = .builtin .min) (hv:evs F c.args.toList=some [.int k m,.int k q]):OpV P n w0 I o F L (.int k (if q<m then q else m)):=by
 intro a w hf hs
 have e1:c.args.map a.eval=#[.int k m,.int k q]:=by apply Array.toList_inj.1; simpa using hf.evs hv
 simp [execOp,ho,resolve,hc,e1,invoke,builtin,Builtin.min_,Builtin.min2]
end
end Go.Eng
namespace Go.Eng
open Go.RowKit
set_option linter.unusedVariables false
set_option linter.unusedSimpArgs false
variable {P:Program}
theorem rowsIn_wide {l n:Nat} {row:String} {args:Array Value} {w:World} {R:Value→World→Prop} (h:Rows P row args w R):RowsIn (Fence.wide.inRound l) n P row args w R:=by
 intro c cs _
 obtain ⟨v,w',r,s⟩:=h c cs
 refine ⟨v,w',r,?_⟩
 rw [fenced_inRound]
 exact stepsIn_wide.2 s
theorem oper_round {l n:Nat} {o:Oper} {a:Act} {w:World} {K:Act→World→Prop} {Q:Exit→Act→World→Prop} (hd:∀ c,o.op ≠ .defer c) (h:o.wp P a w K Q):o.wpIn (Fence.wide.inRound l) n P a w K Q:=by
 refine ⟨fun _ _=>trivial,?_⟩
 rw [Oper.semAt_eq _ _ _ hd]
 unfold Oper.wp at h
 generalize (execOp a.eval o).run P w=r at h ⊢
 cases r with
 | ok x w' =>
  cases x <;> simp only [Oper.upon] at h <;> simp only [Oper.uponIn] <;> first
   | exact h
   | exact h.elim
   | exact ⟨fun he=>by simp [Fence.wide] at he,(callsIn_wide.2 h).inRound l⟩
   | exact ⟨fun he=>by simp [Fence.wide] at he,rowsIn_wide h⟩
 | halt x w'=>cases x <;> simp only [Oper.upon] at h <;> simp only [Oper.uponIn] <;> first | exact h | exact h.elim
theorem noDefer_spec {ops:Array Oper} (h:noDefer ops=true) {i:Nat} {o:Oper} (hi:ops[i]?=some o):∀ c,o.op ≠ .defer c:=by
 intro c e
 have:=List.all_eq_true.1 h o (by rw [Array.mem_toList_iff]; exact Array.mem_of_getElem? hi)
 rw [e] at this
 cases this
theorem ops_round {l n:Nat} {ops:Array Oper} {Q:Exit→Act→World→Prop} (np:NP Q) (hd:noDefer ops=true):∀ (is:List Nat) (a:Act) (w:World),wpOps P ops Q is a w→wpOpsIn (Fence.wide.inRound l) n P ops Q is a w
 | [],a,w,h=>h
 | i :: r,a,w,h=>by
  simp only [wpOps] at h
  simp only [wpOpsIn]
  cases ho:ops[i]? with
  | none=>rw [ho] at h; exact ops_round np hd r a w h
  | some o =>
   rw [ho] at h
   dsimp only at h ⊢
   by_cases hw:Region.wanted o (yielded ops a.tmps)=true
   ·rw [if_pos hw] at h ⊢
    rcases h with h | ⟨_,a',w',hq⟩
    ·exact oper_round (noDefer_spec hd ho) (Oper.wp_mono (fun a w h=>ops_round np hd r a w h) h)
    ·exact absurd hq (np.2 _ _)
   ·rw [if_neg hw] at h ⊢
    exact ⟨fun _ _=>trivial,ops_round np hd r _ w h⟩
theorem flav_round (l m:Nat):Flav P (Code.wpIn (Fence.wide.inRound l) m P) where
 seq:=wpIn_seq
 cond:=wpIn_cond_split
 block:=wpIn_block
 skip:=wpIn_skip
 ret:=wpIn_ret
 exit:=wpIn_exit
 ord:=fun np hd h=>wpIn_region (ops_round np hd _ _ _ h)
 any:=fun {i ops Q a w} np hd hm h=>wpIn_region_draw fun t=>by
  simp only [Region.schedule,hm,Bool.true_or,if_true]
  exact ops_round np hd _ _ _ (wpAny_sound ops.size t _ a _ h)
 loop:=fun J n₀ h0 h=>wpIn_loop_ghost J n₀ h0 h
theorem flav_wide (m:Nat):Flav P (Code.wpIn Fence.wide m P) where
 seq:=wpIn_seq
 cond:=wpIn_cond_split
 block:=wpIn_block
 skip:=wpIn_skip
 ret:=wpIn_ret
 exit:=wpIn_exit
 ord:=fun np hd h=>wpIn_wide.2 ((flav_plain P).ord np hd h)
 any:=fun np hd hm h=>wpIn_wide.2 ((flav_plain P).any np hd hm h)
 loop:=fun J n₀ h0 h=>wpIn_loop_ghost J n₀ h0 h
structure KG (n₀:Nat) (G:List Nat) (A B:World):Prop where
 os:B.os=A.os
 tape:B.tape=A.tape
 output:B.output=A.output
 size:A.heap.size≤B.heap.size
 block:∀ k,k<n₀→k ∉ G→B.heap[k]?=A.heap[k]?
theorem KG.refl (n₀:Nat) (G:List Nat) (A:World):KG n₀ G A A:=⟨rfl,rfl,rfl,Nat.le_refl _,fun _ _ _=>rfl⟩
theorem KG.trans {n₀:Nat} {G:List Nat} {A B C:World} (h:KG n₀ G A B) (k:KG n₀ G B C):KG n₀ G A C :=
 ⟨k.os.trans h.os,k.tape.trans h.tape,k.output.trans h.output,Nat.le_trans h.size k.size,fun i hi hg=>(k.block i hi hg).trans (h.block i hi hg)⟩
theorem KG.put {n₀:Nat} {G:List Nat} (W:World) (l:Nat) (o o':Obj) (hl:n₀≤l) (hw:W.heap[l]?=some o):KG n₀ G W (W.putObj l o'):=by
 have hg:=grownBy_putObj' W l o'
 exact ⟨hg.os,hg.tape,hg.output,hg.size,fun k hk _=>hg.block k (by have:=(Array.getElem?_eq_some_iff.1 hw).1; omega) (fun e=>by cases e; omega)⟩
def cellsOnly (L:HL):Prop:=∀ e∈L,(∃ n cs t,e=Ent.b n (.cells cs t (0,0)))∨e=Ent.f (fun _=>True)
theorem cellsOnly.b {L:HL} (h:cellsOnly L) {n:Nat} {o:Obj} (hm:Ent.b n o∈L):∃ cs t,o = .cells cs t (0,0):=by
 rcases h _ hm with ⟨n',cs,t,e⟩ | e
 ·injection e with e1 e2
  exact ⟨cs,t,e2⟩
 ·cases e
theorem cellsOnly.f {L:HL} (h:cellsOnly L) {φ:World→Prop} (hm:Ent.f φ∈L) (H:List Nat) (w:World):Stab H w φ:=by
 rcases h _ hm with ⟨n',cs,t,e⟩ | e
 ·cases e
 ·injection e with e
  subst e
  exact fun _ _=>trivial
def toFact:Ent→Ent
 | .b n o => .f (fun w=>w.heap[n]?=some o)
 | .f φ => .f φ
theorem ids_toFact (L:HL):ids (L.map toFact)=[]:=by
 induction L with
 | nil=>rfl
 | cons e r ih=>cases e <;> exact ih
theorem mem_toFact {L:HL} {φ:World→Prop} (h:Ent.f φ∈L.map toFact):(∃ n o,Ent.b n o∈L∧φ=fun w=>w.heap[n]?=some o)∨Ent.f φ∈L:=by
 obtain ⟨e,he,h⟩:=List.mem_map.1 h
 cases e with
 | b n o=>injection h with h; exact .inl ⟨n,o,he,h.symm⟩
 | f ψ=>injection h with h; subst h; exact .inr he
def LoopW {σ:Type} (w:World) (G H:List Nat) (Inv:σ→Prop) (Li:σ→HL) (W:World):Prop:=∃ s,Inv s∧Tri w ⟨G,H⟩ W (Li s)
theorem loopW_own {β σ:Type} {w:World} {G H:List Nat} (hG:∀ g∈G,g<w.heap.size) {Inv:β→σ→Prop} {Li:β→σ→HL} (hc:∀ x s,cellsOnly (Li x s)):OwnFrom w.heap.size (fun x W=>LoopW w G H (Inv x) (Li x) W):=by
 rintro x W W' row ⟨s,hs,ht⟩ hg hr
 refine ⟨s,hs,?_⟩
 have hid:∀ n∈ids (Li x s),some n≠row:=by
  intro n hn e
  obtain ⟨hB,o,ho,hnc⟩:=hr n e.symm
  obtain ⟨u,hu⟩:=mem_ids.1 hn
  obtain ⟨cs,t,e2⟩:=(hc x s).b hu
  subst e2
  rw [ht.at_ n _ hu] at ho
  cases ho
  cases hnc
 refine { os:=hg.os.trans ht.os,tape:=hg.tape.trans ht.tape,output:=hg.output.trans ht.output,size:=Nat.le_trans ht.size hg.size,frame:=fun b hb hn=>?_,at_:=fun n o hp=>?_,own:=ht.own,nodup:=ht.nodup,hol:=ht.hol,facts:=fun φ hφ=>?_ }
 ·have:=ht.size
  rw [hg.block b (by omega) (fun e=>by have:=(hr b e.symm).1; omega)]
  exact ht.frame b hb hn
 ·have hm:=mem_ids.2 ⟨o,hp⟩
  rw [hg.block n (ht.lt hm) (hid n hm)]
  exact ht.at_ n o hp
 ·exact (hc x s).f hφ _ _
def RoundEnd {σ:Type} (W:World) (G H:List Nat) (Inv:σ→Prop) (Li:σ→HL) (InvX:Code→σ→Prop):Exit→Act→World→Prop
 | .normal,_,W'=>∃ s,Inv s∧Tri W ⟨G,H⟩ W' (Li s)
 | .ret,_,W'=>∃ s,InvX .ret s∧Tri W ⟨G,H⟩ W' (Li s)
 | .exit i,_,W'=>∃ s,InvX (.exit i) s∧Tri W ⟨G,H⟩ W' (Li s)
 | _,_,_=>False
theorem np_roundEnd {σ:Type} (W:World) (G H:List Nat) (Inv:σ→Prop) (Li:σ→HL) (InvX:Code→σ→Prop):NP (RoundEnd W G H Inv Li InvX):=⟨fun _ _ _ h=>h,fun _ _ h=>h⟩
def cG:Code→Operand
 | .rangeFunc g _ _ _=>g
 | _ => .const undef
def cPs:Code→Array Tmp
 | .rangeFunc _ ps _ _=>ps
 | _=>#[]
theorem Tri.facts_of {w:World} {G H:List Nat} {W:World} {L Lr:HL} (h:Tri w ⟨G,H⟩ W L) (hf:∀ φ,Ent.f φ∈Lr→Stab (H ++ G) w φ) (hb:ids Lr=[]):Tri w ⟨G,H⟩ W (L ++ Lr):=by
 have hsub:∀ x∈H ++ ids L,x<w.heap.size→x∈H ++ G:=fun x hx hlt=>by
  rcases List.mem_append.1 hx with hx | hx
  ·exact List.mem_append_left _ hx
  ·rcases h.own x hx with h1 | h1
   ·exact List.mem_append_right _ h1
   ·omega
 refine { toAgree:=h.toAgree,at_:=fun n o hp=>?_,own:=by rw [ids_app,hb,List.append_nil]; exact h.own,nodup:=by rw [ids_app,hb,List.append_nil]; exact h.nodup,hol:=h.hol,facts:=fun φ hφ=>?_ }
 ·rcases List.mem_append.1 hp with hp | hp
  ·exact h.at_ n o hp
  ·have:n∈ids Lr:=mem_ids.2 ⟨o,hp⟩
   rw [hb] at this
   cases this
 ·rw [ids_app,hb,List.append_nil]
  rcases List.mem_append.1 hφ with hφ | hφ
  ·exact h.facts φ hφ
  ·exact (hf φ hφ).on (h.toAgree.mono (fun x hx _=>List.mem_append_right _ hx)) hsub
theorem c_rangeD {α σ:Type} {n:Sz} {w0:World} {I:Ix} {Q:Exit→Act→World→Prop} {F:FL} {L Lm Lr:HL} {c:Code} {m gf:Nat} {fn:Func} {lb:List Value} (enc:α→Array Value) {ps:Array Tmp} {S Sp:List α→Prop} {N:Nat}
    (idxm idxr:List Nat) (Inv:List α→σ→Prop) (InvX:List α→Code→σ→Prop) (Li:σ→HL) (Fa:α→FL) (s0:σ)
    (h:cK c=5) (hg:ev F (cG c)=some (.func (.func gf) #[] lb.toArray)) (hps:cPs c=ps) (hps1:∀ x,(enc x).size=ps.size) (hm:1≤m)
    (hf : P.funcs[gf]? = some fn) (hb : fn.body.isNone = false) (hname : (fn.name == "runtime.NumGoroutine") = false)
    (hpm:pick L idxm=some Lm) (hpr:pick L idxr=some Lr) (hnd:(idxm ++ idxr).Nodup) (hcell:∀ s,cellsOnly (Li s)) (hs0:Inv [] s0) (hL0:Li s0=Lm)
    (hseq:∀ w,Tri w0 I w L→SeqStopsK Fence.wide (m - 1) P gf lb.toArray enc (KG w.heap.size (ids Lm)) S Sp N w)
    (hassign:∀ (l:Nat) (x:α) (a:Act) (W:World) (K:Act→World→Prop),Fr n a F→(∀ a' W',Fr ⟨n.n,[]⟩ a' (Fa x ++ F)→Agree [] W W'→K a' W')→(cB c).wpIn (Fence.wide.inRound l) (m - 1 - 1) P (Exit.then K (fun _ _ _=>False)) { tmps:=(ps.zip (enc x)).foldl (fun t (p,v)=>t.setIfInBounds p v) a.tmps,defers:=[] } W)
    (hbody:∀ (l:Nat) (pre:List α) (x:α) (s:σ) (W:World),Inv pre s→pre.length<N→CW P (Code.wpIn (Fence.wide.inRound l) (m - 1 - 1) P) ⟨n.n,[]⟩ W ⟨ids (Li s),I.holes⟩ (cA c) (RoundEnd W (ids (Li s)) I.holes (Inv (pre ++ [x])) Li (InvX (pre ++ [x]))) (Fa x ++ F) (Li s ++ Lr.map toFact))
    (hdone:∀ (D:Nat) (xs:List α) (s:σ),(∀ b,(∀ w,Tri w0 I w L→b≤w.heap.size)→b≤D)→S xs→Inv xs s→QW P (Code.wpIn Fence.wide m P) ⟨n.n,{ target := .collected D,args:=#[] } :: n.ds⟩ w0 I .normal Q F (.b D (.deferred (some [])) :: Li s ++ Lr))
    (hstop:∀ (D:Nat) (c:Code) (pre:List α) (s:σ),(∀ b,(∀ w,Tri w0 I w L→b≤w.heap.size)→b≤D)→Sp pre→InvX pre c s→CW P (Code.wpIn Fence.wide m P) ⟨n.n,{ target := .collected D,args:=#[] } :: n.ds⟩ w0 I c Q F (.b D (.deferred (some [])) :: Li s ++ Lr)) :
    CW P (Code.wpIn Fence.wide m P) n w0 I c Q F L:=by
  intro fl np a w hfr ht
  have h12:∀ p∈Lm ++ Lr,p∈L:=mem_pick (pick_app hpm hpr)
  have hndL:=pick_nodup ht.nodup (pick_app hpm hpr) hnd
  have hnd2:=hndL
  rw [ids_app,List.nodup_append] at hnd2
  have hmL:∀ n∈ids Lm,n∈ids L:=fun n hn=>by obtain ⟨o,ho⟩:=mem_ids.1 hn; exact mem_ids.2 ⟨o,h12 _ (List.mem_append_left _ ho)⟩
  have hrL:∀ n∈ids Lr,n∈ids L:=fun n hn=>by obtain ⟨o,ho⟩:=mem_ids.1 hn; exact mem_ids.2 ⟨o,h12 _ (List.mem_append_right _ ho)⟩
  have hmlt:∀ n∈ids Lm,n<w.heap.size:=fun n hn=>ht.lt (hmL n hn)
  have hfacts:∀ φ,Ent.f φ∈Lr.map toFact→Stab (I.holes ++ ids Lm) w φ:=by
    intro φ hφ
    rcases mem_toFact hφ with ⟨k,o,hk,rfl⟩ | hk
    · intro w' ha
      have hkr:k∈ids Lr:=mem_ids.2 ⟨o,hk⟩
      have hget:=ht.at_ k o (h12 _ (List.mem_append_right _ hk))
      refine (ha.frame k (ht.lt (hrL k hkr)) (fun hm'=>?_)).trans hget
      rcases List.mem_append.1 hm' with h1 | h1
      · have h2:=ht.hol k h1
        rcases ht.own k (hrL k hkr) with h3 | h3
        · exact h2.2 h3
        · omega
      · exact hnd2.2.2 k h1 k hkr rfl
    · exact (ht.facts φ (h12 _ (List.mem_append_right _ hk))).mono (fun x hx _=>by
        rcases List.mem_append.1 hx with hx | hx
        · exact List.mem_append_left _ hx
        · exact List.mem_append_right _ (hmL x hx))
  have hstart:Tri w ⟨ids Lm,I.holes⟩ w (Li s0):=by
    rw [hL0]
    have hh:=ht.here h12 hndL
    refine { toAgree:=Agree.refl _ _,at_:=hh.at_,own:=hh.own,nodup:=hh.nodup,facts:=fun φ hφ=>?_,hol:=fun n hn=>?_ }
    · exact (hcell s0).f (hL0 ▸ hφ) _ _
    · exact hh.hol n (List.mem_append_left _ hn)
  have hc:c = .rangeFunc (cG c) (cPs c) (cB c) (cA c):=by cases c <;> first | (simp [cK] at h; done) | rfl | (rename_i d; cases d <;> first | rfl | (simp [cK] at h; done))
  -- what a world behind the loop is for the caller
  have hback:∀ (D:Nat) (s:σ) (W:World),w.heap.size≤D→W.heap[D]?=some (.deferred (some []))→Tri w ⟨ids Lm,I.holes⟩ W (Li s)→Tri w0 I W (.b D (.deferred (some [])) :: Li s ++ Lr):=by
    intro D s W hD hDg htW
    have hholes:∀ n∈ids Lr,n ∉ ids (Li s):=fun n hn hm'=>by
      rcases htW.own n hm' with h1 | h1
      · exact hnd2.2.2 n h1 n hn rfl
      · have:=ht.lt (hrL n hn); omega
    have h1:Tri w ⟨ids Lm,I.holes ++ ids Lr⟩ W (Li s) :=
      { toAgree:=htW.toAgree,at_:=htW.at_,own:=htW.own,nodup:=htW.nodup,
        facts:=fun φ hφ=>((hcell s).f hφ _ _),
        hol:=fun n hn=>by
          rcases List.mem_append.1 hn with hn | hn
          · exact htW.hol n hn
          · exact ⟨ht.lt (hrL n hn),fun h2=>hnd2.2.2 n h2 n hn rfl⟩ }
    have h2:=ht.trans h12 hndL h1
    have hDn:D ∉ ids (Li s ++ Lr):=by
      rw [ids_app]
      intro hm'
      rcases List.mem_append.1 hm' with h3 | h3
      · obtain ⟨o,ho⟩:=mem_ids.1 h3
        obtain ⟨cs,t,e2⟩:=(hcell s).b ho
        rw [htW.at_ D o ho,e2] at hDg
        cases hDg
      · have:=ht.lt (hrL D h3); omega
    refine { toAgree:=h2.toAgree,at_:=fun k o hp=>?_,own:=fun k hk=>?_,nodup:=?_,hol:=h2.hol,facts:=fun φ hφ=>?_ }
    · rw [List.cons_append] at hp
      rcases List.mem_cons.1 hp with hp | hp
      · injection hp with e1 e2; subst e1 e2; exact hDg
      · exact h2.at_ k o hp
    · rw [List.cons_append,ids_b] at hk
      rcases List.mem_cons.1 hk with rfl | hk
      · have:=ht.size; exact .inr (by omega)
      · exact h2.own k hk
    · rw [List.cons_append,ids_b,List.nodup_cons]
      exact ⟨hDn,h2.nodup⟩
    · rw [List.cons_append] at hφ
      have hφ1:Ent.f φ∈Li s∨Ent.f φ∈Lr:=by
        rcases List.mem_cons.1 hφ with hφ | hφ
        · cases hφ
        · exact List.mem_append.1 hφ
      rcases hφ1 with hφ' | hφ'
      · exact (hcell s).f hφ' _ _
      rw [List.cons_append,ids_b]
      refine (ht.facts φ (h12 _ (List.mem_append_right _ hφ'))).on (htW.toAgree.mono (fun x hx _=>List.mem_append_right _ (hmL x hx))) (fun x hx hlt=>?_)
      rcases List.mem_append.1 hx with hx | hx
      · exact List.mem_append_left _ hx
      · rcases List.mem_cons.1 hx with rfl | hx
        · omega
        · rw [ids_app] at hx
          rcases List.mem_append.1 hx with hx | hx
          · rcases htW.own x hx with h3 | h3
            · exact List.mem_append_right _ (hmL x h3)
            · omega
          · exact List.mem_append_right _ (hrL x hx)
  rw [hc]
  refine wpIn_rangeFunc_ownH (I:=fun pre W=>LoopW w (ids Lm) I.holes (Inv pre) Li W) (Ix:=fun c pre W=>LoopW w (ids Lm) I.holes (InvX pre c) Li W) (Ax:=fun x a' _=>Fr ⟨n.n,[]⟩ a' (Fa x ++ F)) (w0:=w) rfl hm (hfr.ev hg) trivial (fun args w=>run_callFunc hf hb hname args w) (hseq w ht)
    (fun h1 h2=>h1.trans h2) (fun W l o o' hl hw _ _=>KG.put W l o o' hl hw) (Below.refl _ _) (fun x=>by rw [hps]; exact hps1 x)
    (loopW_own hmlt (fun _ s=>hcell s)) (fun c=>loopW_own hmlt (fun _ s=>hcell s)) ⟨s0,hs0,hstart⟩ (fun x a'=>ownFrom_pure _ (fun (_:Unit)=>Fr ⟨n.n,[]⟩ a' (Fa x ++ F))) ?_ ?_ ?_ ?_
  · intro l pre x W K hI hK
    rw [hps]
    obtain ⟨s,hs,htW⟩:=hI
    exact hassign l x a W K hfr (fun a' W' ha' hag=>hK a' W' ⟨hag.size,fun k o _ hk _=>(hag.frame k (Array.getElem?_eq_some_iff.1 hk).1 (by simp)).trans hk⟩
      ⟨hag.os,hag.tape,hag.output,hag.size,fun k hk _=>hag.frame k (by have:=htW.size; omega) (by simp)⟩ ⟨s,hs,htW.of_below hag.below⟩ ha')
  · rintro l pre x a' W hl hr ⟨s,hs,htW⟩ ha' hlen
    have hb0:Tri W ⟨ids (Li s),I.holes⟩ W (Li s ++ Lr.map toFact):=by
      have h1:Tri W ⟨ids (Li s),I.holes⟩ W (Li s) :=
        { toAgree:=Agree.refl _ _,at_:=htW.at_,own:=fun n hn => .inl hn,nodup:=htW.nodup,facts:=fun φ hφ=>((hcell s).f hφ _ _),
          hol:=fun n hn=>by
            have h2:=htW.hol n hn
            refine ⟨Nat.lt_of_lt_of_le h2.1 htW.size,fun h3=>?_⟩
            rcases htW.own n h3 with h4 | h4
            · exact h2.2 h4
            · omega }
      refine h1.facts_of (fun φ hφ=>?_) (ids_toFact Lr)
      refine (hfacts φ hφ).on (htW.toAgree.mono (fun x hx _=>List.mem_append_right _ hx)) (fun x hx hlt=>?_)
      rcases List.mem_append.1 hx with hx | hx
      · exact List.mem_append_left _ hx
      · rcases htW.own x hx with h3 | h3
        · exact List.mem_append_right _ h3
        · omega
    have key:=hbody l pre x s W hs hlen (flav_round l _) (np_roundEnd _ _ _ _ _ _) a' W ha' hb0
    have hcomp:∀ (W':World) (s':σ),Tri W ⟨ids (Li s),I.holes⟩ W' (Li s')→Tri w ⟨ids Lm,I.holes⟩ W' (Li s')∧KeepsFrom w.heap.size W W'∧KG w.heap.size (ids Lm) W W':=by
      intro W' s' h'
      have hA:Tri w ⟨ids Lm,I.holes⟩ W' (Li s' ++ []):=htW.trans (L1:=Li s) (L2:=[]) (fun p hp=>by simpa using hp) (by rw [List.append_nil]; exact htW.nodup) (by simpa [ids] using h')
      rw [List.append_nil] at hA
      refine ⟨hA,⟨h'.size,fun k o _ hk ho=>?_⟩,⟨h'.os,h'.tape,h'.output,h'.size,fun k hk hn=>?_⟩⟩
      · refine (h'.frame k (Array.getElem?_eq_some_iff.1 hk).1 (fun hm'=>?_)).trans hk
        obtain ⟨u,hu⟩:=mem_ids.1 hm'
        obtain ⟨cs,t,e2⟩:=(hcell s).b hu
        rw [htW.at_ k u hu,e2] at hk
        cases hk
        cases ho
      · refine h'.frame k (by have:=htW.size; omega) (fun hm'=>?_)
        rcases htW.own k hm' with h1 | h1
        · exact hn h1
        · omega
    refine wpIn_mono key (fun e a'' W' hq=>?_)
    cases e with
    | normal=>obtain ⟨s',h1,h2⟩:=hq; obtain ⟨h3,h4,h5⟩:=hcomp W' s' h2; exact ⟨h4,h5,s',h1,h3⟩
    | ret=>obtain ⟨s',h1,h2⟩:=hq; obtain ⟨h3,h4,h5⟩:=hcomp W' s' h2; exact ⟨h4,s',h1,h3⟩
    | exit i=>obtain ⟨s',h1,h2⟩:=hq; obtain ⟨h3,h4,h5⟩:=hcomp W' s' h2; exact ⟨h4,s',h1,h3⟩
    | goto i=>exact hq.elim
    | panic ch=>exact hq.elim
    | outgrown=>exact hq.elim
  · rintro D xs W hD hS ⟨s,hs,htW⟩ hDg
    exact hdone D xs s (fun b hb=>Nat.le_trans (hb w ht) hD) hS hs fl np _ W ⟨hfr.size,by rw [hfr.defers],hfr.at_⟩ (hback D s W hD hDg htW)
  · rintro D cx pre W hD hSp ⟨s,hs,htW⟩ hDg
    exact hstop D cx pre s (fun b hb=>Nat.le_trans (hb w ht) hD) hSp hs fl np _ W ⟨hfr.size,by rw [hfr.defers],hfr.at_⟩ (hback D s W hD hDg htW)
theorem fr_params2 {n:Sz} {a:Act} {F:FL} (h:Fr n a F) {p q:Tmp} {u v:Value} (hp:Nat.blt p n.n=true) (hq:Nat.blt q n.n=true):Fr ⟨n.n,[]⟩ { tmps:=((#[p,q]:Array Tmp).zip #[u,v]).foldl (fun t (p,v)=>t.setIfInBounds p v) a.tmps,defers:=[] } ((q,v) :: (p,u) :: F):=by
 have h1:=((Fr.mk (n:=⟨n.n,[]⟩) (a:={ a with defers:=[] }) h.size rfl h.at_).put (blt_lt hp) u).put (blt_lt hq) v
 have e:((#[p,q]:Array Tmp).zip #[u,v]).foldl (fun t (p,v)=>t.setIfInBounds p v) a.tmps=(a.tmps.setIfInBounds p u).setIfInBounds q v:=by simp
 rw [e]
 exact h1
theorem q_assigned {W:Code→(Exit→Act→World→Prop)→Act→World→Prop} {n:Sz} {w0:World} {F F1:FL} {L:HL} (hs:∀ j v,look F1 j=some v→look F j=some v):QW P W n w0 ⟨[],[]⟩ .normal (Exit.then (fun a' w'=>Fr n a' F1∧Agree [] w0 w') (fun _ _ _=>False)) F L:=fun _ _ a w hf ht=>⟨hf.sub hs,ht.toAgree⟩
theorem q_round {σ:Type} {V:Code→(Exit→Act→World→Prop)→Act→World→Prop} {n:Sz} {W0:World} {G H:List Nat} {Inv:σ→Prop} {Li:σ→HL} {InvX:Code→σ→Prop} {F:FL} {L L':HL} (s':σ) (idx:List Nat) (hp:pick L idx=some L') (hL:L'=Li s') (hi:idx.Nodup) (hs:Inv s'):QW P V n W0 ⟨G,H⟩ .normal (RoundEnd W0 G H Inv Li InvX) F L :=
 fun _ _ a w hf ht=>⟨s',hs,hL ▸ ht.pick (mem_pick hp) (pick_nodup ht.nodup hp hi)⟩
theorem q_round_ret {σ:Type} {V:Code→(Exit→Act→World→Prop)→Act→World→Prop} {n:Sz} {W0:World} {G H:List Nat} {Inv:σ→Prop} {Li:σ→HL} {InvX:Code→σ→Prop} {F:FL} {L L':HL} (s':σ) (idx:List Nat) (hp:pick L idx=some L') (hL:L'=Li s') (hi:idx.Nodup) (hs:InvX .ret s'):QW P V n W0 ⟨G,H⟩ .ret (RoundEnd W0 G H Inv Li InvX) F L :=
 fun _ _ a w hf ht=>⟨s',hs,hL ▸ ht.pick (mem_pick hp) (pick_nodup ht.nodup hp hi)⟩
theorem q_all {W:Code→(Exit→Act→World→Prop)→Act→World→Prop} {n:Sz} {w0:World} {I:Ix} {Q:Exit→Act→World→Prop} {F:FL} {L:HL} {e:Exit} (h:∀ a w,Fr n a F→Tri w0 I w L→Q e a w):QW P W n w0 I e Q F L:=fun _ _ a w hf ht=>h a w hf ht
theorem assign_one {l m:Nat} {n:Sz} {F F1:FL} {c:Code} {W:World} {K:Act→World→Prop} {a:Act} (hf:Fr n a F) (hk:∀ a' W',Fr n a' F1→Agree [] W W'→K a' W') (h:CW P (Code.wpIn (Fence.wide.inRound l) m P) n W ⟨[],[]⟩ c (Exit.then (fun a' w'=>Fr n a' F1∧Agree [] W w') (fun _ _ _=>False)) F []):c.wpIn (Fence.wide.inRound l) m P (Exit.then K (fun _ _ _=>False)) a W:=by
 refine wpIn_mono (h (flav_round l m) ⟨fun _ _ _ h=>h,fun _ _ h=>h⟩ a W hf (Tri.nil W)) (fun e a' w' hq=>?_)
 cases e with
 | normal=>exact hk a' w' hq.1 hq.2
 | _=>exact hq
inductive RV (P:Program) (F:FL) (L:HL):List ResultVar→List Value→Prop where
 | nil:RV P F L [] []
 | tmp {t:Tmp} {r:List ResultVar} {v:Value} {vs:List Value}:look F t=some v→RV P F L r vs→RV P F L (.tmp t :: r) (v :: vs)
 | cell {x:Tmp} {t:TypeId} {d:TypeDesc} {b off:Nat} {cs:Array Value} {e:TypeId} {fz:Nat × Nat} {r:List ResultVar} {v:Value} {vs:List Value} (i:Nat):look F x=some (.pointer (some ⟨b,off,none⟩))→P.underlying t=some d→notAgg d=true→L[i]?=some (.b b (.cells cs e fz))→cs[off]?=some v→RV P F L r vs→RV P F L (.cell x t :: r) (v :: vs)
 | agg {x:Tmp} {t:TypeId} {d:TypeDesc} {b off m:Nat} {cs:Array Value} {e:TypeId} {fz:Nat × Nat} {r:List ResultVar} {vs:List Value} (us:List Value) (i:Nat):look F x=some (.pointer (some ⟨b,off,none⟩))→P.underlying t=some d→notAgg d=false→(P.info? t).map (·.size)=some m→L[i]?=some (.b b (.cells cs e fz))→us.length=m→(cs.toList.drop off).take m=us→RV P F L r vs→RV P F L (.cell x t :: r) (.agg us.toArray :: vs)
theorem results_rv {fn:Func} {n:Sz} {a:Act} {w0 w:World} {I:Ix} {F:FL} {L:HL} {rs:List ResultVar} {vs:List Value} (hr:fn.results=rs.toArray) (h:RV P F L rs vs) (hf:Fr n a F) (hw:WS w0 I w L):(results fn a.tmps).run P w = .ok (packV vs) w:=by
 have key:∀ {rs:List ResultVar} {vs:List Value},RV P F L rs vs→(rs.mapM (m:=Sem) fun | .tmp t=>pure (a.tmps.getD t undef) | .cell x t=>do loadVar t (← asAddr (a.tmps.getD x undef))).run P w = .ok vs w:=by
  intro rs vs h
  induction h with
  | nil=>simp
  | tmp h1 _ ih =>
   simp only [List.mapM_cons,Sem.run_bind,Sem.run_pure,Result.andThen_ok,hf.at_ _ _ h1,ih]
  | @cell x t d b off cs e fz r v vs i h1 ht hd hL hc _ ih =>
   have hcell:=(hw.cell hL _).trans hc
   have hone:(do loadVar t (← asAddr (a.tmps.getD x undef)):Sem Value).run P w = .ok v w:=by
    simp only [Sem.run_bind,Sem.run_pure,Result.andThen_ok,hf.at_ _ _ h1,asAddr,loadVar,run_isAgg0 ht hd,if_false,Bool.false_eq_true,run_load hcell]
   rw [List.mapM_cons,Sem.run_bind]
   refine (congrArg (fun r=>Result.andThen r _) hone).trans ?_
   simp only [Sem.run_bind,Sem.run_pure,Result.andThen_ok,ih]
  | @agg x t d b off m cs e fz r vs us i h1 ht hd hm hL hl hc _ ih =>
   have h2:∀ j v,us[j]?=some v→w.cell? ⟨b,off+j,none⟩=some v:=by
    intro j v hv
    rw [hw.cell hL]
    rw [← hc,List.getElem?_take] at hv
    split at hv
    ·rw [List.getElem?_drop] at hv
     simpa using hv
    ·cases hv
   have h3:=run_cells (P:=P) (w:=w) h2
   rw [hl] at h3
   have hone:(do loadVar t (← asAddr (a.tmps.getD x undef)):Sem Value).run P w = .ok (.agg us.toArray) w:=by
    simp only [Sem.run_bind,Sem.run_pure,Result.andThen_ok,hf.at_ _ _ h1,asAddr,loadVar,run_isAgg1 ht hd,if_true,run_size hm,h3]
   rw [List.mapM_cons,Sem.run_bind]
   refine (congrArg (fun r=>Result.andThen r _) hone).trans ?_
   simp only [Sem.run_bind,Sem.run_pure,Result.andThen_ok,ih]
 have k:=key h
 have hm:(fn.results.mapM (m:=Sem) fun | .tmp t=>pure (a.tmps.getD t undef) | .cell x t=>do loadVar t (← asAddr (a.tmps.getD x undef))).run P w = .ok vs.toArray w:=by
  rw [hr]
  simp only [List.mapM_toArray,Sem.run_map,k,Result.andThen_ok]
 unfold results
 rw [Sem.run_bind]
 refine (congrArg (fun r=>Result.andThen r _) hm).trans ?_
 simp only [Result.andThen_ok]
 match vs with
 | []=>simp [packV]
 | [v]=>simp [packV]
 | u :: v :: r=>simp [packV]
def PostM (k:Nat) (P:Program) (fn:Func) (R:Ending→World→Prop):Exit→Act→World→Prop
 | .normal,a,w=>LeavesInM Fence.wide k P fn a.tmps R a.defers .returning w
 | .ret,a,w=>LeavesInM Fence.wide k P fn a.tmps R a.defers .returning w
 | _,_,_=>False
section
variable {W:Code→(Exit→Act→World→Prop)→Act→World→Prop} {w0:World} {I:Ix} {F:FL} {L:HL}
theorem q_ret {m:Nat} {fn:Func} {X:Value→HL→Prop} {rs:List ResultVar} {vs:List Value} (hr:fn.results=rs.toArray) (h:RV P F L rs vs) {L':HL} (idx:List Nat) (hp:pick L idx=some L') (hi:idx.Nodup) (hX:X (packV vs) L'):QW P W ⟨m,[]⟩ w0 I .ret (bodyPost P fn (Post X w0 I)) F L :=
 fun fl np a w hf ht=>⟨hf.defers,_,results_rv hr h hf ht.toWS,_,_,rfl,hX,ht.pick (mem_pick hp) (pick_nodup ht.nodup hp hi)⟩
theorem q_retn {m:Nat} {fn:Func} {X:Value→HL→Prop} {rs:List ResultVar} {vs:List Value} (hr:fn.results=rs.toArray) (h:RV P F L rs vs) {L':HL} (idx:List Nat) (hp:pick L idx=some L') (hi:idx.Nodup) (hX:X (packV vs) L'):QW P W ⟨m,[]⟩ w0 I .normal (bodyPost P fn (Post X w0 I)) F L :=
 fun fl np a w hf ht=>⟨hf.defers,_,results_rv hr h hf ht.toWS,_,_,rfl,hX,ht.pick (mem_pick hp) (pick_nodup ht.nodup hp hi)⟩
theorem q_retM {m k:Nat} {fn:Func} {X:Value→HL→Prop} {rs:List ResultVar} {vs:List Value} {e:Exit} (he:e = .ret∨e = .normal) (hr:fn.results=rs.toArray) (h:RV P F L rs vs) {L':HL} (idx:List Nat) (hp:pick L idx=some L') (hi:idx.Nodup) (hX:X (packV vs) L'):QW P W ⟨m,[]⟩ w0 I e (PostM k P fn (Post X w0 I)) F L:=by
 intro fl np a w hf ht
 have key:LeavesInM Fence.wide k P fn a.tmps (Post X w0 I) a.defers .returning w:=by
  rw [hf.defers]
  exact ⟨_,results_rv hr h hf ht.toWS,_,_,rfl,hX,ht.pick (mem_pick hp) (pick_nodup ht.nodup hp hi)⟩
 rcases he with rfl | rfl <;> exact key
theorem q_retM1 {m k D:Nat} {fn:Func} {X:Value→HL→Prop} {rs:List ResultVar} {vs:List Value} {e:Exit} (he:e = .ret∨e = .normal) (hr:fn.results=rs.toArray) (h:RV P F L rs vs) {L':HL} (idx:List Nat) (hp:pick L idx=some L') (hi:idx.Nodup) (hX:X (packV vs) L'):QW P W ⟨m,[{ target := .collected D,args:=#[] }]⟩ w0 I e (PostM k P fn (Post X w0 I)) F (.b D (.deferred (some [])) :: L):=by
 intro fl np a w hf ht
 have hK:w.heap[D]?=some (.deferred (some [])):=ht.at_ D _ List.mem_cons_self
 have hlt:=(Array.getElem?_eq_some_iff.1 hK).1
 have ht1:Tri w0 I (w.putObj D (.deferred none)) (.b D (.deferred none) :: L):=by
  have hg:=grownBy_putObj' w D (.deferred none)
  exact ht.setObj (i:=0) (o := .deferred (some [])) rfl (H:=(w.putObj D (.deferred none)).heap) (by simp [World.putObj]) (by simp [World.putObj,hlt]) (fun j hj=>by
   simp only [World.putObj]
   rw [Array.getElem?_setIfInBounds_ne (fun e=>hj e.symm)])
 have ht2:Tri w0 I (w.putObj D (.deferred none)) L:=ht1.pick (fun p hp=>List.mem_cons_of_mem _ hp) (by have:=ht1.nodup; rw [ids_b,List.nodup_cons] at this; exact this.2)
 have key:LeavesInM Fence.wide k P fn a.tmps (Post X w0 I) a.defers .returning w:=by
  rw [hf.defers]
  refine ⟨by simp,.inl ⟨_,_,rfl,run_takeDeferred hK,?_⟩⟩
  exact ⟨_,results_rv hr h hf ht2.toWS,_,_,rfl,hX,ht2.pick (mem_pick hp) (pick_nodup ht2.nodup hp hi)⟩
 rcases he with rfl | rfl <;> exact key
theorem con_enterM {H:List Nat} {c:Code} {k:Nat} {f:FuncId} {fn:Func} {args:Array Value} {C:(Value→HL→Prop)→Prop} (hf:P.funcs[f]?=some fn) (hb:fn.body=some c) {m:Nat} (hm:fn.ntmps=m) (ha:Nat.ble args.size m=true) {F0:FL} (hF:enumF 0 args.toList=F0)
  (kk:∀ X,C X→Tri w0 ⟨ids L,H⟩ w0 L→CW P (Code.wpIn Fence.wide k P) ⟨m,[]⟩ w0 ⟨ids L,H⟩ c (PostM k P fn (Post X w0 ⟨ids L,H⟩)) F0 L):Con P f args w0 H L C:=by
 intro ht X hX
 have ha':args.size≤m:=by simpa using Nat.le_of_ble_eq_true ha
 subst hm hF
 refine (callsIn_wide (n:=k)).1 (callsIn_of_wp_marks hf hb trivial (wpIn_mono (kk X hX ht (flav_wide k) ⟨fun _ _ _ h=>h,fun _ _ h=>h⟩ _ _ ⟨by simp; omega,rfl,fun j v hv=>?_⟩ ht) (fun e a w hq=>by cases e <;> first | exact hq | exact hq.elim)) rfl)
 ·obtain ⟨_,h2⟩:=look_enumF 0 args.toList j v hv
  rw [Nat.sub_zero] at h2
  have hlt:j<args.size:=by
   have:=(List.getElem?_eq_some_iff.1 h2).1
   simpa using this
  show (args ++ Array.replicate (fn.ntmps - args.size) undef).getD j undef=v
  rw [Array.getD_eq_getD_getElem?,Array.getElem?_append_left hlt]
  rw [Array.getElem?_toList] at h2
  rw [h2]
  rfl
end
end Go.Eng
