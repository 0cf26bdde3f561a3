/-
Own text, put together by an own program (shake.py) out of this claim's texts: what its theorem needs of them.
-/
import Derived.Test.YtgbcnokeaaabfaaGreatA6
namespace Go.Eng
open Go.RowKit Go.Proofs.YtgbcnokeaaabfaaGreatW.PrintWords
abbrev lfA (a b c d e f g:Int):List Value:=[.int .i64 a,.int .i64 b,.int .i64 c,.int .i64 d,.int .i64 e,.int .i64 f,.int .i64 g]
abbrev KU (A:Option Addr) (c:Nat) (l:List Int):World→Prop:=KC (Kd.int .u64) A c l
abbrev _root_.Go.Value.I (x:Int):Value := .int .i64 x
abbrev _root_.Go.Value.U (x:Int):Value := .int .u64 x
abbrev _root_.Go.Value.P (b:Nat):Value := .pointer (some ⟨b,0,none⟩)
section
variable {P:Program} {W:Code→(Exit→Act→World→Prop)→Act→World→Prop} {n:Sz} {w0:World} {I:Ix} {Q:Exit→Act→World→Prop} {F:FL} {L:HL} {S:HL} {c:Code} {ops:Array Oper} {i d:Nat} {l:List Nat} {o:Oper} {v:Value} {fuel:Nat} {listed:Array Bool}
def arI (op:BinOp) (k:IntKind) (m q:Int):Option Value:=match op with | .add=>some (Value.int k (k.wrap (m+q))) | .sub=>some (Value.int k (k.wrap (m - q))) | .mul=>some (Value.int k (k.wrap (m * q))) | .eql=>some (.bool (m == q)) | .neq=>some (.bool (m != q)) | .lss=>some (.bool (decide (m<q))) | .leq=>some (.bool (decide (m≤q))) | .gtr=>some (.bool (decide (m > q))) | .geq=>some (.bool (decide (m≥q))) | _=>none
theorem pr {α β:Type} {a a':α} {b b':β} (h:(a,b)=(a',b')):a=a'∧b=b':=Prod.mk.inj h
theorem sM {x:Operand} (h:(ops[i]?,o.guard,o.dst,Nat.blt d n.n,o.op,ev F x)=(some o,none,some d,true,.move x,some v)) (k:SW P W n w0 I ops Q l ((d,v) :: F) L):SW P W n w0 I ops Q (i :: l) F L:=by
  obtain ⟨h1,h⟩:=pr h
  obtain ⟨h2,h⟩:=pr h
  obtain ⟨h3,h⟩:=pr h
  obtain ⟨h4,h⟩:=pr h
  obtain ⟨h5,h6⟩:=pr h
  exact s_v h1 h2 h3 h4 (v_move h5 h6) k
theorem sA {x:Operand} (h:(ops[i]?,o.guard,o.dst,Nat.blt d n.n,o.op,ev F x)=(some o,none,some d,true,.assign x,some v)) (k:SW P W n w0 I ops Q l ((d,v) :: F) L):SW P W n w0 I ops Q (i :: l) F L:=by
  obtain ⟨h1,h⟩:=pr h
  obtain ⟨h2,h⟩:=pr h
  obtain ⟨h3,h⟩:=pr h
  obtain ⟨h4,h⟩:=pr h
  obtain ⟨h5,h6⟩:=pr h
  exact s_v h1 h2 h3 h4 (v_assign h5 h6) k
theorem sP {x y z:Operand} {b:Bool} {u v:Value} (h:(ops[i]?,o.guard,o.dst,Nat.blt d n.n,o.op,ev F x,ev F y,ev F z)=(some o,none,some d,true,.pick x y z,some (.bool b),some u,some v)) (k:SW P W n w0 I ops Q l ((d,if b then u else v) :: F) L):SW P W n w0 I ops Q (i :: l) F L:=by
  obtain ⟨h1,h⟩:=pr h
  obtain ⟨h2,h⟩:=pr h
  obtain ⟨h3,h⟩:=pr h
  obtain ⟨h4,h⟩:=pr h
  obtain ⟨h5,h⟩:=pr h
  obtain ⟨h6,h⟩:=pr h
  obtain ⟨h7,h8⟩:=pr h
  exact s_v h1 h2 h3 h4 (v_pick h5 h6 h7 h8) k

theorem sR {op:BinOp} {t t':TypeId} {x y:Operand} {k:IntKind} {m q:Int} (h:(ops[i]?,o.guard,o.dst,Nat.blt d n.n,o.op,ev F x,ev F y,arI op k m q)=(some o,none,some d,true,.binOp op t x y t',some (.int k m),some (.int k q),some v)) (kk:SW P W n w0 I ops Q l ((d,v) :: F) L):SW P W n w0 I ops Q (i :: l) F L:=by
  obtain ⟨h1,h⟩:=pr h
  obtain ⟨h2,h⟩:=pr h
  obtain ⟨h3,h⟩:=pr h
  obtain ⟨h4,h⟩:=pr h
  obtain ⟨h5,h⟩:=pr h
  obtain ⟨h6,h⟩:=pr h
  obtain ⟨h7,h8⟩:=pr h
  exact s_v h1 h2 h3 h4 (v_arith h5 h6 h7 (by cases op <;> exact h8)) kk
theorem sV (h:(ops[i]?,o.guard,o.dst,Nat.blt d n.n)=(some o,none,some d,true)) (hv:OpV P n w0 I o F L v) (k:SW P W n w0 I ops Q l ((d,v) :: F) L):SW P W n w0 I ops Q (i :: l) F L:=by
  obtain ⟨h1,h⟩:=pr h
  obtain ⟨h2,h⟩:=pr h
  obtain ⟨h3,h4⟩:=pr h
  exact s_v h1 h2 h3 h4 hv k
theorem sG (h:(ops[i]?,gd ops F o,o.dst,Nat.blt d n.n)=(some o,some true,some d,true)) (hv:OpV P n w0 I o F L v) (k:SW P W n w0 I ops Q l ((d,v) :: F) L):SW P W n w0 I ops Q (i :: l) F L:=by
  obtain ⟨h1,h⟩:=pr h
  obtain ⟨h2,h⟩:=pr h
  obtain ⟨h3,h4⟩:=pr h
  exact s_vg h1 h2 h3 h4 hv k
theorem sN (h:(ops[i]?,gd ops F o,o.dst,Nat.blt d n.n)=(some o,some false,some d,true)) (k:SW P W n w0 I ops Q l ((d,undef) :: F) L):SW P W n w0 I ops Q (i :: l) F L:=by
  obtain ⟨h1,h⟩:=pr h
  obtain ⟨h2,h⟩:=pr h
  obtain ⟨h3,h4⟩:=pr h
  exact s_no h1 h2 h3 h4 k
theorem vM {x:Operand} (h:(o.op,ev F x)=(.move x,some v)):OpV P n w0 I o F L v:=v_move (pr h).1 (pr h).2
theorem vA {x:Operand} (h:(o.op,ev F x)=(.assign x,some v)):OpV P n w0 I o F L v:=v_assign (pr h).1 (pr h).2
theorem vP {x y z:Operand} {b:Bool} {u v:Value} (h:(o.op,ev F x,ev F y,ev F z)=(.pick x y z,some (.bool b),some u,some v)):OpV P n w0 I o F L (if b then u else v):=v_pick (pr h).1 (pr (pr h).2).1 (pr (pr (pr h).2).2).1 (pr (pr (pr h).2).2).2
theorem vR {op:BinOp} {t t':TypeId} {x y:Operand} {k:IntKind} {m q:Int} (h:(o.op,ev F x,ev F y,arI op k m q)=(.binOp op t x y t',some (.int k m),some (.int k q),some v)):OpV P n w0 I o F L v:=by
  obtain ⟨h5,h⟩:=pr h
  obtain ⟨h6,h⟩:=pr h
  obtain ⟨h7,h8⟩:=pr h
  exact v_arith h5 h6 h7 (by cases op <;> exact h8)
theorem vF {s:TypeId} {x:Operand} {f:Nat} {fs:Array Field} {fd:Field} {b off m:Nat} (hs:P.underlying s=some (.struct fs)) (hm:(P.info? fd.type).map (·.size)=some (m+1)) (h:(o.op,fs[f]?,ev F x)=(.fieldAddr s x f,some fd,some (.pointer (some ⟨b,off,none⟩)))):OpV P n w0 I o F L (.pointer (some ⟨b,off+fd.offset,none⟩)):=v_fa (pr h).1 hs (pr (pr h).2).1 hm (pr (pr h).2).2
theorem vL {t:TypeId} {x:Operand} {D:TypeDesc} {b off:Nat} {cs:Array Value} {e:TypeId} {fz:Nat × Nat} (j:Nat) (ht:P.underlying t=some D) (h:(o.op,notAgg D,ev F x,L[j]?,cs[off]?)=(.load t x,true,some (.pointer (some ⟨b,off,none⟩)),some (.b b (.cells cs e fz)),some v)):OpV P n w0 I o F L v:=v_ld j (pr h).1 ht (pr (pr h).2).1 (pr (pr (pr h).2).2).1 (pr (pr (pr (pr h).2).2).2).1 (pr (pr (pr (pr h).2).2).2).2
theorem vLA {t:TypeId} {x:Operand} {D:TypeDesc} {b off m:Nat} {cs:Array Value} {e:TypeId} {fz:Nat × Nat} (vs:List Value) (j:Nat) (ht:P.underlying t=some D) (hm:(P.info? t).map (·.size)=some m) (h:(o.op,notAgg D,ev F x,L[j]?,vs.length,(cs.toList.drop off).take m)=(.load t x,false,some (.pointer (some ⟨b,off,none⟩)),some (.b b (.cells cs e fz)),m,vs)):OpV P n w0 I o F L (.agg vs.toArray):=v_ldA vs j (pr h).1 ht (pr (pr h).2).1 hm (pr (pr (pr h).2).2).1 (pr (pr (pr (pr h).2).2).2).1 (pr (pr (pr (pr (pr h).2).2).2).2).1 (pr (pr (pr (pr (pr h).2).2).2).2).2
theorem aV (j:Nat) (h:(ops[j]?,gd ops F o,o.dst,Nat.blt d n.n)=(some o,some true,some d,true)) (hb:okA ops listed j=true) (hv:OpV P n w0 I o F S v) (k:AW P W n w0 I ops Q S fuel (listed.setIfInBounds j true) ((d,v) :: F) L):AW P W n w0 I ops Q S (fuel+1) listed F L:=by
  obtain ⟨h1,h⟩:=pr h
  obtain ⟨h2,h⟩:=pr h
  obtain ⟨h3,h4⟩:=pr h
  exact a_vb j h1 hb h2 h3 h4 hv k
theorem aN (j:Nat) (h:(ops[j]?,gd ops F o,o.dst,Nat.blt d n.n)=(some o,some false,some d,true)) (hb:okA ops listed j=true) (k:AW P W n w0 I ops Q S fuel (listed.setIfInBounds j true) ((d,undef) :: F) L):AW P W n w0 I ops Q S (fuel+1) listed F L:=by
  obtain ⟨h1,h⟩:=pr h
  obtain ⟨h2,h⟩:=pr h
  obtain ⟨h3,h4⟩:=pr h
  exact a_nob j h1 hb h2 h3 h4 k
theorem cT {t:Bool} (ht:t=true) (h:(cK c,ev F (cC c))=(2,some (.bool t))) (k:CW P W n w0 I (cA c) Q F L):CW P W n w0 I c Q F L:=c_cond (pr h).1 (pr h).2 (fun _=>k) (fun e=>absurd (e.symm.trans ht) (by decide))
theorem cF {t:Bool} (ht:t=false) (h:(cK c,ev F (cC c))=(2,some (.bool t))) (k:CW P W n w0 I (cB c) Q F L):CW P W n w0 I c Q F L:=c_cond (pr h).1 (pr h).2 (fun e=>absurd (e.symm.trans ht) (by decide)) (fun _=>k)
theorem sE {d:Code} (h:cK d=1) (k:CW P W n w0 I (cA d) (Exit.then (fun a w=>W (cB d) Q a w) Q) F L):SW P W n w0 I ops (Exit.then (fun a w=>W d Q a w) Q) [] F L:=s_end (q_seq (c_seq h k))
theorem sQ {d:Code} (k:CW P W n w0 I d Q F L):SW P W n w0 I ops (Exit.then (fun a w=>W d Q a w) Q) [] F L:=s_end (q_seq k)
theorem kQ {d:Code} (h:cK c=10) (k:CW P W n w0 I d Q F L):CW P W n w0 I c (Exit.then (fun a w=>W d Q a w) Q) F L:=c_skip h (q_seq k)
theorem eC {cl : Call} {x : Operand} {g : FuncId} {fn : Func} {fst cap : Array Value} {vs : List Value} {L1 : HL} {C : (Value → HL → Prop) → Prop} (idx : List Nat) (args : Array Value) (hf : P.funcs[g]? = some fn) (hname : (fn.name == "runtime.NumGoroutine") = false) (h : (o.op, cl.callee, ev F x, evs F cl.args.toList, fst ++ vs.toArray ++ cap, fn.body.isNone, o.dst, Nat.blt d n.n, pick L idx, ids L1) = (.call cl, .value x, some (.func (.func g) fst cap), some vs, args, false, some d, true, some L1, []))
    (hcon:∀ w,Tri w0 I w L→Con P g args w (I.holes ++ ids L) L1 C):OpE P n w0 I o F L (fun X=>C (fun v L1'=>X ((d,v) :: F) (L1' ++ L))):=by
  obtain ⟨h1,h⟩:=pr h
  obtain ⟨h2,h⟩:=pr h
  obtain ⟨h3,h⟩:=pr h
  obtain ⟨h4,h⟩:=pr h
  obtain ⟨h5,h⟩:=pr h
  obtain ⟨h6,h⟩:=pr h
  obtain ⟨h7,h⟩:=pr h
  obtain ⟨h8,h⟩:=pr h
  obtain ⟨h9,h⟩:=pr h
  exact e_callF idx args h1 h2 h3 h4 h5 hf h6 hname h7 h8 h9 h hcon
end
end Go.Eng
namespace Go.Eng
open Go.Proofs Go.RowKit Go.Proofs.YtgbcnokeaaabfaaGreatW.PrintWords
set_option linter.unusedVariables false
set_option linter.unusedSimpArgs false
structure S53 where
 f0:Int
 f1:Int
 f2:Int
def k53:Kd S53:=Kd.iso (Kd.pair (Kd.int .u64) (Kd.pair (Kd.int .u64) (Kd.int .u64))) (fun x:S53=>(x.f0,x.f1,x.f2))
def z53:S53:=(⟨0,0,0⟩:S53)
def rd_T53 (xs:List S53) (i:Int):S53:=xs.getD i.toNat z53
def enc53 (x:S53):List Value:=[.U x.f0,.U x.f1,.U x.f2]
theorem k53_open {w:World} {x:S53} {cs:List Value} (h:k53.K w x cs):cs=[.U x.f0,.U x.f1,.U x.f2]:=by
 obtain ⟨_,_,rfl,rfl,⟨_,_,rfl,rfl,rfl⟩⟩:=h
 rfl
theorem flat53:Flat k53 enc53:=⟨fun w x cs=>⟨fun h=>k53_open h,fun h=>by subst h; exact ⟨_,_,rfl,rfl,⟨_,_,rfl,rfl,rfl⟩⟩⟩,fun x u hu=>by
  simp only [enc53,List.mem_cons,List.not_mem_nil,or_false] at hu
  rcases hu with rfl | rfl | rfl <;> rfl,fun _=>rfl,by decide⟩
structure S47 where
 f0:Int
 f1:Int
 f2:Int
def k47:Kd S47:=Kd.iso (Kd.pair (Kd.int .u64) (Kd.pair (Kd.int .u64) (Kd.int .u64))) (fun x:S47=>(x.f0,x.f1,x.f2))
def z47:S47:=(⟨0,0,0⟩:S47)
def rd_T47 (xs:List S47) (i:Int):S47:=xs.getD i.toNat z47
theorem k47_open {w:World} {x:S47} {cs:List Value} (h:k47.K w x cs):cs=[.U x.f0,.U x.f1,.U x.f2]:=by
 obtain ⟨_,_,rfl,rfl,⟨_,_,rfl,rfl,rfl⟩⟩:=h
 rfl
structure S79 where
 f0:Int
 f1:Int
def z79:S79:=(⟨0,0⟩:S79)
def rd_T79 (xs:List S79) (i:Int):S79:=xs.getD i.toNat z79
structure S88 where
 f0:Int
 f1:Int
def z88:S88:=(⟨0,0⟩:S88)
def rd_T88 (xs:List S88) (i:Int):S88:=xs.getD i.toNat z88
set_option maxHeartbeats 4000000 in
theorem eqS23 (x0:Int) (x1:Int) (x2:Int) (x3:Int) (x4:Int) (x5:Int) (x6:Int) (y0:Int) (y1:Int) (y2:Int) (y3:Int) (y4:Int) (y5:Int) (y6:Int) (d:Nat) (w:World):(Op.equalIn (d+2) 23 (.agg (cfA x0 x1 x2 x3 x4 x5 x6)) (.agg (cfA y0 y1 y2 y3 y4 y5 y6))).run Tryz.prog w = .ok ((x0 == y0) && ((x1 == y1) && ((x2 == y2) && ((x3 == y3) && ((x4 == y4) && ((x5 == y5) && ((x6 == y6)))))))) w:=by
 refine eqA_of Tryz.underlying23 (by kernel_rfl) ?_
 refine eqf_cons (by rfl) (by go_simp; rfl) (by go_simp; rfl) (by go_simp) ?_
 refine eqf_cons (by rfl) (by go_simp; rfl) (by go_simp; rfl) (by go_simp) ?_
 refine eqf_cons (by rfl) (by go_simp; rfl) (by go_simp; rfl) (by go_simp) ?_
 refine eqf_cons (by rfl) (by go_simp; rfl) (by go_simp; rfl) (by go_simp) ?_
 refine eqf_cons (by rfl) (by go_simp; rfl) (by go_simp; rfl) (by go_simp) ?_
 refine eqf_cons (by rfl) (by go_simp; rfl) (by go_simp; rfl) (by go_simp) ?_
 exact eqf_last (by rfl) (by go_simp; rfl) (by go_simp; rfl) (by go_simp)
set_option maxHeartbeats 4000000 in
theorem eqS174 (x0:Int) (x1:Int) (y0:Int) (y1:Int) (d:Nat) (w:World):(Op.equalIn (d+2) 174 (.agg #[.I x0,.I x1]) (.agg #[.I y0,.I y1])).run Tryz.prog w = .ok ((x0 == y0) && ((x1 == y1))) w:=by
 refine eqA_of Tryz.underlying174 (by kernel_rfl) ?_
 refine eqf_cons (by rfl) (by go_simp; rfl) (by go_simp; rfl) (by go_simp) ?_
 exact eqf_last (by rfl) (by go_simp; rfl) (by go_simp; rfl) (by go_simp)
theorem v_buildR {P:Program} {n:Sz} {w0:World} {I:Ix} {o:Oper} {F:FL} {L:HL} {t:TypeId} {ps:Array (Nat × Operand)} {us:List Value} {v:Value} (ho:o.op = .build t ps) (hu:evs F (ps.toList.map (·.2))=some us) (he:∀ w,(Instr.build t ((ps.toList.map (·.1)).zip us).toArray).run P w = .ok v w):OpV P n w0 I o F L v:=by
 intro a w hf hs
 have e1:(ps.map fun (i,x)=>(i,a.eval x))=((ps.toList.map (·.1)).zip us).toArray:=Array.toList_inj.1 (by
  rw [← hf.evs hu]
  simp [List.zip_map',Function.comp_def])
 simp [execOp,ho,e1,he w]
theorem v_indexR {P:Program} {n:Sz} {w0:World} {I:Ix} {o:Oper} {F:FL} {L:HL} {t:TypeId} {x y:Operand} {u u' v:Value} (ho:o.op = .index t x y) (hx:ev F x=some u) (hy:ev F y=some u') (he:∀ w,(Instr.index t u u').run P w = .ok v w):OpV P n w0 I o F L v:=by
 intro a w hf hs
 simp [execOp,ho,hf.ev hx,hf.ev hy,he w]
theorem bitsI (a:Int):IntKind.wrap .i64 (IntKind.wrap .u64 ((BitVec.ofInt (IntKind.bits .u64) a &&& BitVec.ofInt (IntKind.bits .u64) 4294967295).toNat:Int))=a % 4294967296:=by
 have e2:=and32 a
 rw [show IntKind.u64.bits=64 from rfl,e2,wrap_small .u64 _ (by omega) (by omega),wrap_small .i64 _ (by omega) (by omega)]
theorem bitsG (a:Int):IntKind.wrap .i64 (IntKind.wrap .u64 ((BitVec.ofInt (IntKind.bits .u64) (a / 4294967296) &&& BitVec.ofInt (IntKind.bits .u64) 1073741823).toNat:Int))=a / 4294967296 % 1073741824:=by
 have e2:=and30 (a / 4294967296)
 rw [show IntKind.u64.bits=64 from rfl,e2,wrap_small .u64 _ (by omega) (by omega),wrap_small .i64 _ (by omega) (by omega)]
set_option maxRecDepth 100000 in
set_option maxHeartbeats 4000000 in
theorem bits_con (a m:Int) (w0:World) (Hs:List Nat):Con Tryz.prog 82 #[.I a,.I m] w0 Hs [] (fun X=>∀ b1 b2,X (.func (.func 118) #[] #[.P b1,.P b2]) [.b b1 (.cells #[.I a] 3 (0,0)),.b b2 (.cells #[.I m] 3 (0,0))]):=by
 refine con_enter (c:=bodyOf Tryz.f82) Tryz.func82 rfl (m:=6) rfl rfl rfl ?_
 intro X hX _
 refine c_seq rfl ?_
 refine r_ordb (l:=[0,1,2]) rfl (by kernel_rfl) ?_
 refine s_e rfl rfl (e_box rfl rfl rfl rfl) ?_
 intro b1_
 refine s_e rfl rfl (e_box rfl rfl rfl rfl) ?_
 intro b2_
 refine sA rfl ?_
 refine sE rfl ?_
 refine r_ordb (l:=[0,1]) rfl (by kernel_rfl) ?_
 refine sV rfl (v_mf rfl rfl rfl) ?_
 refine sA rfl ?_
 refine sQ ?_
 refine c_ret rfl ?_
 exact q_ret (vs:=[.func (.func 118) #[] #[.P b1_,.P b2_]]) rfl (.tmp rfl .nil) [1,0] rfl (by decide) (hX b1_ b2_)
set_option maxRecDepth 100000 in
set_option maxHeartbeats 4000000 in
theorem bits1I_con (a:Int) (b1 b2:Nat) (w0:World) (Hs:List Nat):Con Tryz.prog 118 #[.U a,.P b1,.P b2] w0 Hs [.b b1 (.cells #[.I 0] 3 (0,0)),.b b2 (.cells #[.I 32] 3 (0,0))] (fun X=>X (.I (a % 4294967296)) []):=by
 refine con_enter (c:=bodyOf Tryz.f118) Tryz.func118 rfl (m:=13) rfl rfl rfl ?_
 intro X hX _
 refine c_seq rfl ?_
 refine r_ordb (l:=[0]) rfl (by kernel_rfl) ?_
 refine sA rfl ?_
 refine sE rfl ?_
 refine r_any [.b b1 (.cells #[.I 0] 3 (0,0)),.b b2 (.cells #[.I 32] 3 (0,0))] (by kernel_rfl) rfl (by kernel_rfl) (mem_pick (idx:=[0,1]) rfl) ?_
 refine aV 0 rfl (by kernel_rfl) (vM rfl) ?_
 refine aV 1 rfl (by kernel_rfl) (vL 0 Tryz.underlying3 rfl) ?_
 refine aV 2 rfl (by kernel_rfl) (Eq.mp (congrArg (fun z=>OpV _ _ _ _ _ _ _ (.U z)) (show Int.fdiv a (2 ^ (min (Int.toNat 0) (IntKind.bits .u64)))=a from Int.fdiv_one _)) (v_shr rfl rfl rfl (show (0:Int)≤0 by decide))) ?_
 refine aV 3 rfl (by kernel_rfl) (vL 1 Tryz.underlying3 rfl) ?_
 refine aV 4 rfl (by kernel_rfl) (Eq.mp (congrArg (fun z=>OpV _ _ _ _ _ _ _ (.U z)) (show IntKind.wrap .u64 (1 * 2 ^ (min (Int.toNat 32) (IntKind.bits .u64)))=4294967296 by decide)) (v_shl rfl rfl rfl (show (0:Int)≤32 by decide))) ?_
 refine aV 5 rfl (by kernel_rfl) (Eq.mp (congrArg (fun z=>OpV _ _ _ _ _ _ _ (.U z)) (show IntKind.wrap .u64 (4294967296 - 1)=4294967295 by decide)) (vR rfl)) ?_
 refine aV 6 rfl (by kernel_rfl) (v_bits rfl rfl rfl rfl) ?_
 refine aV 7 rfl (by kernel_rfl) (v_conv rfl Tryz.underlying41 Tryz.underlying3 rfl) ?_
 refine aV 8 rfl (by kernel_rfl) (vA rfl) ?_
 refine a_end (by kernel_rfl) ?_
 refine q_seq ?_
 refine c_ret rfl ?_
 refine q_ret (vs:=[.I (IntKind.wrap .i64 (IntKind.wrap .u64 (BitVec.ofInt (IntKind.bits .u64) a &&& BitVec.ofInt (IntKind.bits .u64) 4294967295).toNat))]) rfl (.tmp rfl .nil) [] rfl (by decide) ?_
 have h_:=hX
 rw [← bitsI a] at h_
 exact h_
set_option maxRecDepth 100000 in
set_option maxHeartbeats 4000000 in
theorem bits1G_con (a:Int) (b1 b2:Nat) (w0:World) (Hs:List Nat):Con Tryz.prog 118 #[.U a,.P b1,.P b2] w0 Hs [.b b1 (.cells #[.I 32] 3 (0,0)),.b b2 (.cells #[.I 30] 3 (0,0))] (fun X=>X (.I (a / 4294967296 % 1073741824)) []):=by
 refine con_enter (c:=bodyOf Tryz.f118) Tryz.func118 rfl (m:=13) rfl rfl rfl ?_
 intro X hX _
 refine c_seq rfl ?_
 refine r_ordb (l:=[0]) rfl (by kernel_rfl) ?_
 refine sA rfl ?_
 refine sE rfl ?_
 refine r_any [.b b1 (.cells #[.I 32] 3 (0,0)),.b b2 (.cells #[.I 30] 3 (0,0))] (by kernel_rfl) rfl (by kernel_rfl) (mem_pick (idx:=[0,1]) rfl) ?_
 refine aV 0 rfl (by kernel_rfl) (vM rfl) ?_
 refine aV 1 rfl (by kernel_rfl) (vL 0 Tryz.underlying3 rfl) ?_
 refine aV 2 rfl (by kernel_rfl) (Eq.mp (congrArg (fun z=>OpV _ _ _ _ _ _ _ (.U z)) (show Int.fdiv a (2 ^ (min (Int.toNat 32) (IntKind.bits .u64)))=a / 4294967296 from Int.fdiv_eq_ediv_of_nonneg _ (by decide))) (v_shr rfl rfl rfl (show (0:Int)≤32 by decide))) ?_
 refine aV 3 rfl (by kernel_rfl) (vL 1 Tryz.underlying3 rfl) ?_
 refine aV 4 rfl (by kernel_rfl) (Eq.mp (congrArg (fun z=>OpV _ _ _ _ _ _ _ (.U z)) (show IntKind.wrap .u64 (1 * 2 ^ (min (Int.toNat 30) (IntKind.bits .u64)))=1073741824 by decide)) (v_shl rfl rfl rfl (show (0:Int)≤30 by decide))) ?_
 refine aV 5 rfl (by kernel_rfl) (Eq.mp (congrArg (fun z=>OpV _ _ _ _ _ _ _ (.U z)) (show IntKind.wrap .u64 (1073741824 - 1)=1073741823 by decide)) (vR rfl)) ?_
 refine aV 6 rfl (by kernel_rfl) (v_bits rfl rfl rfl rfl) ?_
 refine aV 7 rfl (by kernel_rfl) (v_conv rfl Tryz.underlying41 Tryz.underlying3 rfl) ?_
 refine aV 8 rfl (by kernel_rfl) (vA rfl) ?_
 refine a_end (by kernel_rfl) ?_
 refine q_seq ?_
 refine c_ret rfl ?_
 refine q_ret (vs:=[.I (IntKind.wrap .i64 (IntKind.wrap .u64 (BitVec.ofInt (IntKind.bits .u64) (a / 4294967296) &&& BitVec.ofInt (IntKind.bits .u64) 1073741823).toNat))]) rfl (.tmp rfl .nil) [] rfl (by decide) ?_
 have h_:=hX
 rw [← bitsG a] at h_
 exact h_
set_option maxRecDepth 100000 in
set_option maxHeartbeats 4000000 in
theorem handle_Index_con (a0:Int) (w0:World) (Hs:List Nat):Con Tryz.prog 30 #[.U a0] w0 Hs [] (fun X=>X (.I (a0 % 4294967296)) []):=by
 refine con_enter (c:=bodyOf Tryz.f30) Tryz.func30 rfl (m:=6) rfl rfl rfl ?_
 intro X hX _
 refine c_seq rfl ?_
 refine r_ordb (l:=[0]) rfl (by kernel_rfl) ?_
 refine sA rfl ?_
 refine sE rfl ?_
 refine r_ordb (l:=[0,1,2,3]) rfl (by kernel_rfl) ?_
 refine s_e rfl rfl (eC [] #[.I 0,.I 32] Tryz.func82 (by decide) rfl (fun w ht=>bits_con 0 32 w _)) ?_
 intro b3_ b4_
 refine sM rfl ?_
 refine s_e rfl rfl (e_call [0,1] [] #[.U a0,.P b3_,.P b4_] rfl rfl rfl rfl rfl Tryz.func118 rfl (by decide) rfl rfl rfl rfl (by decide) (fun w ht=>bits1I_con a0 b3_ b4_ w _)) ?_
 refine sA rfl ?_
 refine sQ ?_
 refine c_ret rfl ?_
 exact q_ret (vs:=[.I (a0 % 4294967296)]) rfl (.tmp rfl .nil) [] rfl (by decide) hX
set_option maxRecDepth 100000 in
set_option maxHeartbeats 4000000 in
theorem handle_Gen_con (a0:Int) (w0:World) (Hs:List Nat):Con Tryz.prog 116 #[.U a0] w0 Hs [] (fun X=>X (.I (a0 / 4294967296 % 1073741824)) []):=by
 refine con_enter (c:=bodyOf Tryz.f116) Tryz.func116 rfl (m:=6) rfl rfl rfl ?_
 intro X hX _
 refine c_seq rfl ?_
 refine r_ordb (l:=[0]) rfl (by kernel_rfl) ?_
 refine sA rfl ?_
 refine sE rfl ?_
 refine r_ordb (l:=[0,1,2,3]) rfl (by kernel_rfl) ?_
 refine s_e rfl rfl (eC [] #[.I 32,.I 30] Tryz.func82 (by decide) rfl (fun w ht=>bits_con 32 30 w _)) ?_
 intro b3_ b4_
 refine sM rfl ?_
 refine s_e rfl rfl (e_call [0,1] [] #[.U a0,.P b3_,.P b4_] rfl rfl rfl rfl rfl Tryz.func118 rfl (by decide) rfl rfl rfl rfl (by decide) (fun w ht=>bits1G_con a0 b3_ b4_ w _)) ?_
 refine sA rfl ?_
 refine sQ ?_
 refine c_ret rfl ?_
 exact q_ret (vs:=[.I (a0 / 4294967296 % 1073741824)]) rfl (.tmp rfl .nil) [] rfl (by decide) hX
def handle_within.f (a0:Int) (a1:Int):Option Int:=some (if (0:Int)<(if (a1:Int)<a0 then a1 else a0) then (if (a1:Int)<a0 then a1 else a0) else 0)
set_option maxRecDepth 100000 in
set_option maxHeartbeats 4000000 in
theorem handle_within_con (a0:Int) (a1:Int) (r0:Int) (h:handle_within.f a0 a1=some r0) (w0:World) (Hs:List Nat):Con Tryz.prog 119 #[.I a0,.I a1] w0 Hs [] (fun X=>X (.I r0) []):=by
 refine con_enter (c:=bodyOf Tryz.f119) Tryz.func119 rfl (m:=9) rfl rfl rfl ?_
 intro X hX _
 have H:=h
 unfold handle_within.f at H
 clear h
 refine c_seq rfl ?_
 refine r_ordb (l:=[0]) rfl (by kernel_rfl) ?_
 refine sA rfl ?_
 refine sE rfl ?_
 refine r_ordb (l:=[0,1,2,3,4]) rfl (by kernel_rfl) ?_
 refine sM rfl ?_
 refine sM rfl ?_
 refine sV rfl (v_min (x := .tmp 0) (y := .tmp 0) rfl rfl rfl) ?_
 refine sV rfl (v_max (x := .tmp 0) (y := .tmp 0) rfl rfl rfl) ?_
 refine sA rfl ?_
 refine sQ ?_
 refine c_ret rfl ?_
 have e_:=Option.some.inj H
 subst e_
 exact q_ret (vs:=[.I (if (0:Int)<(if (a1:Int)<a0 then a1 else a0) then (if (a1:Int)<a0 then a1 else a0) else 0)]) rfl (.tmp rfl .nil) [] rfl (by decide) (hX)
def wth (n m:Int):Int:=(handle_within.f n m).getD 0
def or64 (x y:Int):Int:=IntKind.wrap .u64 (BitVec.ofInt (IntKind.bits .u64) x ||| BitVec.ofInt (IntKind.bits .u64) y).toNat
def g9 (a g:Int):Nat→Int
 | 0=>9223372036854775808
 | 1=>IntKind.wrap .u64 ((IntKind.wrap .u64 g) * 2 ^ (min (Int.toNat 32) (IntKind.bits .u64)))
 | _=>IntKind.wrap .u64 a
def h9 (a g:Int):Nat→Int
 | 0=>0
 | j+1=>or64 (h9 a g j) (g9 a g j)
def pk0 (a g:Int):Int × Bool:=if ((wth a 4294967295 == a) && (wth g 1073741823 == g))=true then (h9 a g 3,true) else (0,false)
theorem pk0_ok (a g:Int) (h:(!((wth a 4294967295 == a) && (wth g 1073741823 == g)))=false):pk0 a g=(h9 a g 3,true):=by
 unfold pk0
 rw [if_pos (by simpa using h)]
theorem pk0_no (a g:Int) (h:(!((wth a 4294967295 == a) && (wth g 1073741823 == g)))=true):pk0 a g=(0,false):=by
 unfold pk0
 rw [if_neg (fun h2=>by rw [h2] at h; exact absurd h (by decide))]
theorem eqR177 (x0 x1 y0 y1:Int) (d:Nat) (w:World):(Op.equalIn (d+2) 177 (.agg #[.I x0,.I x1]) (.agg #[.I y0,.I y1])).run Tryz.prog w = .ok ((x0 == y0) && (x1 == y1)) w:=by
 obtain ⟨i,hi,hs1⟩:=Option.map_eq_some_iff.1 (show (Tryz.prog.info? 3).map (·.size)=some 1 from by kernel_rfl)
 have hc:Tryz.prog.cellsOf 3=1:=by simp [Program.cellsOf,hi,hs1]
 rw [run_equalIn_array (P:=Tryz.prog) w (d+1) _ _ Tryz.underlying177 hi,hc]
 by_cases h0:x0=y0
 ·by_cases h1:x1=y1
  ·simp [Op.equalIn,run_underlying Tryz.underlying3,part,run_isAgg0 Tryz.underlying3 rfl,h0,h1,Op.eqItems,List.range,List.range.loop]
  ·simp [Op.equalIn,run_underlying Tryz.underlying3,part,run_isAgg0 Tryz.underlying3 rfl,h0,h1,Op.eqItems,List.range,List.range.loop]
 ·simp [Op.equalIn,run_underlying Tryz.underlying3,part,run_isAgg0 Tryz.underlying3 rfl,h0,Op.eqItems,List.range,List.range.loop]
set_option maxRecDepth 100000 in
set_option maxHeartbeats 4000000 in
theorem handle_Pack0_con (a g:Int) (w0:World) (Hs:List Nat):Con Tryz.prog 83 #[.I a,.I g,.bool false] w0 Hs [] (fun X=>X (.tuple #[.U (pk0 a g).1,.bool (pk0 a g).2]) []):=by
 refine con_enter (c:=bodyOf Tryz.f83) Tryz.func83 rfl (m:=39) rfl rfl rfl ?_
 intro X hX _
 refine c_seq rfl ?_
 refine r_ordb (l:=[0,1]) rfl (by kernel_rfl) ?_
 refine sA rfl ?_
 refine sA rfl ?_
 refine sE rfl ?_
 refine r_ordb (l:=[0,1,2,3,4,5,6]) rfl (by kernel_rfl) ?_
 refine sM rfl ?_
 refine s_e rfl rfl (eC [] #[.I a,.I 4294967295] Tryz.func119 (by decide) rfl (fun w ht=>handle_within_con a 4294967295 (wth a 4294967295) (rfl:handle_within.f a 4294967295=some (wth a 4294967295)) w _)) ?_
 refine sM rfl ?_
 refine s_e rfl rfl (eC [] #[.I g,.I 1073741823] Tryz.func119 (by decide) rfl (fun w ht=>handle_within_con g 1073741823 (wth g 1073741823) (rfl:handle_within.f g 1073741823=some (wth g 1073741823)) w _)) ?_
 refine sV rfl (v_buildR (v := .agg #[.I (wth a 4294967295),.I (wth g 1073741823)]) rfl rfl (fun w=>by kernel_rfl)) ?_
 refine s_e rfl rfl (e_alloc rfl rfl rfl ZR177) ?_
 intro b1_
 refine s_e rfl rfl (e_stA 0 rfl rfl SZ177 rfl rfl rfl rfl rfl rfl) ?_
 refine sE rfl ?_
 refine c_seq rfl ?_
 refine r_ordb (l:=[0,1,2,3,4]) rfl (by kernel_rfl) ?_
 refine sV rfl (vLA [.I (wth a 4294967295),.I (wth g 1073741823)] 0 Tryz.underlying177 SZ177 rfl) ?_
 refine sM rfl ?_
 refine sM rfl ?_
 refine sV rfl (v_buildR (v := .agg #[.I a,.I g]) rfl rfl (fun w=>by kernel_rfl)) ?_
 refine sV rfl (v_neA (r:=(((wth a 4294967295) == a) && ((wth g 1073741823) == g))) rfl rfl rfl (by kernel_rfl) (eqR177 (wth a 4294967295) (wth g 1073741823) a g)) ?_
 refine sQ ?_
 rcases Bool.eq_false_or_eq_true (!(((wth a 4294967295) == a) && ((wth g 1073741823) == g))) with hk_ | hk_
 refine cT hk_ rfl ?_
 refine c_seq rfl ?_
 refine r_ordb (l:=[0,1]) rfl (by kernel_rfl) ?_
 refine sA rfl ?_
 refine sA rfl ?_
 refine sQ ?_
 refine c_ret rfl ?_
 refine q_then_ret ?_
 refine q_ret (vs:=[.U 0,.bool false]) rfl (.tmp rfl (.tmp rfl .nil)) [] rfl (by decide) ?_
 have h_:=hX
 rw [pk0_no a g hk_] at h_
 exact h_
 refine cF hk_ rfl ?_
 refine kQ rfl ?_
 refine c_seq rfl ?_
 refine r_ordb (l:=[0]) rfl (by kernel_rfl) ?_
 refine sA rfl ?_
 refine sE rfl ?_
 refine c_seq rfl ?_
 refine r_ordb (l:=[0,1,2,3,4,5,6]) rfl (by kernel_rfl) ?_
 refine sM rfl ?_
 refine sV rfl (v_conv rfl Tryz.underlying3 Tryz.underlying41 rfl) ?_
 refine sV rfl (v_shl rfl rfl rfl (by omega)) ?_
 refine sM rfl ?_
 refine sV rfl (v_conv rfl Tryz.underlying3 Tryz.underlying41 rfl) ?_
 refine sV rfl (v_buildR (v := .agg #[.U 9223372036854775808,.U (IntKind.wrap .u64 ((IntKind.wrap .u64 g) * 2 ^ (min (Int.toNat 32) (IntKind.bits .u64)))),.U (IntKind.wrap .u64 a)]) rfl rfl (fun w=>by kernel_rfl)) ?_
 refine sM rfl ?_
 refine sQ ?_
 refine c_block rfl ?_
 refine c_loop (σ:=Nat) (fun j=>j≤3) (fun j=>3 - j) (fun j=>[(2,.bool false),(6,.U 0),(7,.bool false),(9,.U (h9 a g j)),(27,.agg #[.U 9223372036854775808,.U (IntKind.wrap .u64 ((IntKind.wrap .u64 g) * 2 ^ (min (Int.toNat 32) (IntKind.bits .u64)))),.U (IntKind.wrap .u64 a)]),(28,.I (j:Int))]) (fun _=>[]) 0 [] rfl (by decide) (subF_spec ⟨rfl,rfl,rfl,rfl,rfl,rfl,trivial⟩) rfl (by decide) ?_
 intro j hj
 have hj4:j=0∨j=1∨j=2∨j=3:=by omega
 rcases hj4 with rfl | rfl | rfl | rfl
 refine c_seq rfl ?_
 refine r_ordb (l:=[0]) rfl (by kernel_rfl) ?_
 refine sR rfl ?_
 refine sE rfl ?_
 refine c_cond1 rfl rfl ?_
 refine kQ rfl ?_
 refine c_seq rfl ?_
 refine c_block rfl ?_
 refine c_seq rfl ?_
 refine r_ordb (l:=[0,1]) rfl (by kernel_rfl) ?_
 refine sV rfl (v_indexR (v := .U 9223372036854775808) rfl rfl rfl (fun w=>by kernel_rfl)) ?_
 refine sA rfl ?_
 refine sQ ?_
 refine r_ordb (l:=[0,1,2,3]) rfl (by kernel_rfl) ?_
 refine sM rfl ?_
 refine sM rfl ?_
 refine sV rfl (v_bits rfl rfl rfl rfl) ?_
 refine sA rfl ?_
 refine s_end ?_
 refine q_block ?_
 refine q_seq ?_
 refine r_ordb (l:=[0,1]) rfl (by kernel_rfl) ?_
 refine sR rfl ?_
 refine sM rfl ?_
 refine s_end ?_
 exact q_again 1 [] (by decide) (by decide) (subF_spec ⟨rfl,rfl,rfl,rfl,rfl,rfl,trivial⟩) rfl (by decide)
 refine c_seq rfl ?_
 refine r_ordb (l:=[0]) rfl (by kernel_rfl) ?_
 refine sR rfl ?_
 refine sE rfl ?_
 refine c_cond1 rfl rfl ?_
 refine kQ rfl ?_
 refine c_seq rfl ?_
 refine c_block rfl ?_
 refine c_seq rfl ?_
 refine r_ordb (l:=[0,1]) rfl (by kernel_rfl) ?_
 refine sV rfl (v_indexR (v := .U (IntKind.wrap .u64 ((IntKind.wrap .u64 g) * 2 ^ (min (Int.toNat 32) (IntKind.bits .u64))))) rfl rfl rfl (fun w=>by kernel_rfl)) ?_
 refine sA rfl ?_
 refine sQ ?_
 refine r_ordb (l:=[0,1,2,3]) rfl (by kernel_rfl) ?_
 refine sM rfl ?_
 refine sM rfl ?_
 refine sV rfl (v_bits rfl rfl rfl rfl) ?_
 refine sA rfl ?_
 refine s_end ?_
 refine q_block ?_
 refine q_seq ?_
 refine r_ordb (l:=[0,1]) rfl (by kernel_rfl) ?_
 refine sR rfl ?_
 refine sM rfl ?_
 refine s_end ?_
 exact q_again 2 [] (by decide) (by decide) (subF_spec ⟨rfl,rfl,rfl,rfl,rfl,rfl,trivial⟩) rfl (by decide)
 refine c_seq rfl ?_
 refine r_ordb (l:=[0]) rfl (by kernel_rfl) ?_
 refine sR rfl ?_
 refine sE rfl ?_
 refine c_cond1 rfl rfl ?_
 refine kQ rfl ?_
 refine c_seq rfl ?_
 refine c_block rfl ?_
 refine c_seq rfl ?_
 refine r_ordb (l:=[0,1]) rfl (by kernel_rfl) ?_
 refine sV rfl (v_indexR (v := .U (IntKind.wrap .u64 a)) rfl rfl rfl (fun w=>by kernel_rfl)) ?_
 refine sA rfl ?_
 refine sQ ?_
 refine r_ordb (l:=[0,1,2,3]) rfl (by kernel_rfl) ?_
 refine sM rfl ?_
 refine sM rfl ?_
 refine sV rfl (v_bits rfl rfl rfl rfl) ?_
 refine sA rfl ?_
 refine s_end ?_
 refine q_block ?_
 refine q_seq ?_
 refine r_ordb (l:=[0,1]) rfl (by kernel_rfl) ?_
 refine sR rfl ?_
 refine sM rfl ?_
 refine s_end ?_
 exact q_again 3 [] (by decide) (by decide) (subF_spec ⟨rfl,rfl,rfl,rfl,rfl,rfl,trivial⟩) rfl (by decide)
 refine c_seq rfl ?_
 refine r_ordb (l:=[0]) rfl (by kernel_rfl) ?_
 refine sR rfl ?_
 refine sE rfl ?_
 refine c_cond0 rfl rfl ?_
 refine c_exit (i:=0) rfl rfl ?_
 refine q_then_exit ?_
 refine q_then_exit ?_
 refine q_block_here rfl ?_
 refine q_seq ?_
 refine c_seq rfl ?_
 refine c_seq rfl ?_
 refine r_ordb (l:=[0]) rfl (by kernel_rfl) ?_
 refine sM rfl ?_
 refine sQ ?_
 refine c_cond0 rfl rfl ?_
 refine kQ rfl ?_
 refine c_seq rfl ?_
 refine r_ordb (l:=[0,1,2]) rfl (by kernel_rfl) ?_
 refine sM rfl ?_
 refine sA rfl ?_
 refine sA rfl ?_
 refine sQ ?_
 refine c_ret rfl ?_
 refine q_ret (vs:=[.U (h9 a g 3),.bool true]) rfl (.tmp rfl (.tmp rfl .nil)) [] rfl (by decide) ?_
 have h_:=hX
 rw [pk0_ok a g hk_] at h_
 exact h_
def handle_Pack0.f (a g:Int):Option (Int × Bool):=some (pk0 a g)
theorem handle_Pack0_call (a g r0:Int) (r1:Bool) (h:handle_Pack0.f a g=some (r0,r1)) (w0:World) (Hs:List Nat):Con Tryz.prog 83 #[.I a,.I g,.bool false] w0 Hs [] (fun X=>X (.tuple #[.U r0,.bool r1]) []):=by
 have e:pk0 a g=(r0,r1):=Option.some.inj h
 have:=handle_Pack0_con a g w0 Hs
 rw [e] at this
 exact this
theorem pk00:pk0 0 0=(9223372036854775808,true):=by kernel_rfl
set_option maxRecDepth 100000 in
set_option maxHeartbeats 4000000 in
theorem plan_Head_con (w0:World) (Hs:List Nat):Con Tryz.prog 111 #[] w0 Hs [] (fun X=>X (.U 9223372036854775808) []):=by
 refine con_enter (c:=bodyOf Tryz.f111) Tryz.func111 rfl (m:=8) rfl rfl rfl ?_
 intro X hX _
 refine c_seq rfl ?_
 refine r_ordb (l:=[0]) rfl (by kernel_rfl) ?_
 refine sA rfl ?_
 refine sE rfl ?_
 refine r_ordb (l:=[0,1,2,3,4,5]) rfl (by kernel_rfl) ?_
 refine s_e rfl rfl (eC [] #[.I 0,.I 0,.bool false] Tryz.func83 (by decide) rfl (fun w ht=>handle_Pack0_call 0 0 _ _ (congrArg some pk00) w _)) ?_
 refine sM rfl ?_
 refine sV rfl (v_ext rfl rfl rfl) ?_
 refine sV rfl (v_ext rfl rfl rfl) ?_
 refine sA rfl ?_
 refine sA rfl ?_
 refine sE rfl ?_
 refine r_ordb (l:=[0,1]) rfl (by kernel_rfl) ?_
 refine sM rfl ?_
 refine sA rfl ?_
 refine sQ ?_
 refine c_ret rfl ?_
 exact q_ret (vs:=[.U 9223372036854775808]) rfl (.tmp rfl .nil) [] rfl (by decide) hX
end Go.Eng
namespace Go.Eng
open Go.Proofs Go.RowKit Go.Proofs.YtgbcnokeaaabfaaGreatW.PrintWords
set_option linter.unusedVariables false
set_option linter.unusedSimpArgs false
def handle_Plain.f (a0:Int):Option Int:=some (IntKind.wrap .u64 (BitVec.ofInt (IntKind.bits .u64) a0 &&& ~~~ BitVec.ofInt (IntKind.bits .u64) 4611686018427387904).toNat)
set_option maxRecDepth 100000 in
set_option maxHeartbeats 4000000 in
theorem handle_Plain_con (a0:Int) (r0:Int) (h:handle_Plain.f a0=some r0) (w0:World) (Hs:List Nat):Con Tryz.prog 99 #[.U a0] w0 Hs [] (fun X=>X (.U r0) []):=by
 refine con_enter (c:=bodyOf Tryz.f99) Tryz.func99 rfl (m:=5) rfl rfl rfl ?_
 intro X hX _
 have H:=h
 unfold handle_Plain.f at H
 clear h
 refine c_seq rfl ?_
 refine r_ordb (l:=[0]) rfl (by kernel_rfl) ?_
 refine sA rfl ?_
 refine sE rfl ?_
 refine r_ordb (l:=[0,1,2]) rfl (by kernel_rfl) ?_
 refine sM rfl ?_
 refine sV rfl (v_bits rfl rfl rfl rfl) ?_
 refine sA rfl ?_
 refine sQ ?_
 refine c_ret rfl ?_
 have e_:=Option.some.inj H
 subst e_
 exact q_ret (vs:=[.U (IntKind.wrap .u64 (BitVec.ofInt (IntKind.bits .u64) a0 &&& ~~~ BitVec.ofInt (IntKind.bits .u64) 4611686018427387904).toNat)]) rfl (.tmp rfl .nil) [] rfl (by decide) (hX)
def handle_Valid.f (a0:Int):Option Bool:=some ((IntKind.wrap .u64 (BitVec.ofInt (IntKind.bits .u64) a0 &&& BitVec.ofInt (IntKind.bits .u64) 9223372036854775808).toNat:Int) != 0)
set_option maxRecDepth 100000 in
set_option maxHeartbeats 4000000 in
theorem handle_Valid_con (a0:Int) (r0:Bool) (h:handle_Valid.f a0=some r0) (w0:World) (Hs:List Nat):Con Tryz.prog 115 #[.U a0] w0 Hs [] (fun X=>X (.bool r0) []):=by
 refine con_enter (c:=bodyOf Tryz.f115) Tryz.func115 rfl (m:=6) rfl rfl rfl ?_
 intro X hX _
 have H:=h
 unfold handle_Valid.f at H
 clear h
 refine c_seq rfl ?_
 refine r_ordb (l:=[0]) rfl (by kernel_rfl) ?_
 refine sA rfl ?_
 refine sE rfl ?_
 refine r_ordb (l:=[0,1,2,3]) rfl (by kernel_rfl) ?_
 refine sM rfl ?_
 refine sV rfl (v_bits rfl rfl rfl rfl) ?_
 refine sR rfl ?_
 refine sA rfl ?_
 refine sQ ?_
 refine c_ret rfl ?_
 have e_:=Option.some.inj H
 subst e_
 exact q_ret (vs:=[.bool ((IntKind.wrap .u64 (BitVec.ofInt (IntKind.bits .u64) a0 &&& BitVec.ofInt (IntKind.bits .u64) 9223372036854775808).toNat:Int) != 0)]) rfl (.tmp rfl .nil) [] rfl (by decide) (hX)
def sw_names.f (p0:Int) (p1:Int) (p2:Int) (p3:Int) (p4:Int) (p5:Int) (p6:Int) (l0_7:List Int) (a1:Int):Option Bool:=((handle_Valid.f a1).bind fun t9_=>(if t9_=true then (if ((a1 % 4294967296):Int)≥1 then some (decide (((a1 % 4294967296):Int)≤p2)) else some false) else some false):Option Bool).bind fun j7_=>some j7_
set_option maxRecDepth 100000 in
set_option maxHeartbeats 4000000 in
theorem sw_names_con (p0:Int) (p1:Int) (p2:Int) (p3:Int) (p4:Int) (p5:Int) (p6:Int) (A0_7:Option Addr) (c0_7:Nat) (l0_7:List Int) (a1:Int) (r0:Bool) (h:sw_names.f p0 p1 p2 p3 p4 p5 p6 l0_7 a1=some r0) (w0:World) (Hs:List Nat):Con Tryz.prog 75 #[.agg (cfB p0 p1 p2 p3 p4 p5 p6 A0_7 l0_7.length c0_7),.U a1] w0 Hs [.f (KU A0_7 c0_7 l0_7)] (fun X=>X (.bool r0) []):=by
 refine con_enter (c:=bodyOf Tryz.f75) Tryz.func75 rfl (m:=20) rfl rfl rfl ?_
 intro X hX _
 have H:=h
 unfold sw_names.f at H
 clear h
 refine c_seq rfl ?_
 refine r_ordb (l:=[0,1]) rfl (by kernel_rfl) ?_
 refine s_e rfl rfl (e_box rfl rfl rfl rfl) ?_
 intro b2_
 refine sA rfl ?_
 refine sQ ?_
 obtain ⟨j7_,e8_,H⟩:=bind_s H
 refine c_join (β:=Unit) (fun _=>True) (fun _=>[(4,.bool j7_)]) (fun _=>[.b b2_ (.cells (cfB p0 p1 p2 p3 p4 p5 p6 A0_7 l0_7.length c0_7) 104 (0,0)),.f (KU A0_7 c0_7 l0_7)]) rfl (fun _ _=>?_) (fun J_=>?_)
 refine c_ret rfl ?_
 have e_:=Option.some.inj H
 subst e_
 exact q_ret (vs:=[.bool j7_]) rfl (.tmp rfl .nil) [] rfl (by decide) (hX)
 clear H
 have H:=e8_
 clear e8_
 obtain ⟨t9_,e10_,H⟩:=bind_s H
 rcases Bool.eq_false_or_eq_true t9_ with h11_ | h11_
 subst h11_
 replace H:=ite_y rfl H
 rcases Bool.eq_false_or_eq_true (decide (((a1 % 4294967296):Int)≥1)) with h12_ | h12_
 replace H:=ite_y (dec_t h12_) H
 refine r_any [.b b2_ (.cells (cfB p0 p1 p2 p3 p4 p5 p6 A0_7 l0_7.length c0_7) 104 (0,0)),.f (KU A0_7 c0_7 l0_7)] (by kernel_rfl) rfl (by kernel_rfl) (mem_pick (idx:=[0,1]) rfl) ?_
 refine aV 0 rfl (by kernel_rfl) (vM rfl) ?_
 refine a_1 (i:=1) (by kernel_rfl) ?_
 refine i_e rfl rfl (eC [] #[.U a1] Tryz.func115 (by decide) rfl (fun w ht=>handle_Valid_con a1 true e10_ w _)) ?_
 refine ⟨(mem_pick (idx:=[0,1]) rfl),?_⟩
 refine aV 2 rfl (by kernel_rfl) (vM rfl) ?_
 refine aV 3 rfl (by kernel_rfl) (vM rfl) ?_
 refine a_1 (i:=4) (by kernel_rfl) ?_
 refine i_e rfl rfl (eC [] #[.U a1] Tryz.func30 (by decide) rfl (fun w ht=>handle_Index_con a1 w _)) ?_
 refine ⟨(mem_pick (idx:=[0,1]) rfl),?_⟩
 refine aV 5 rfl (by kernel_rfl) (OpV.cast (v := .bool true) (vR rfl) (congrArg Value.bool h12_)) ?_
 refine aV 6 rfl (by kernel_rfl) (vP rfl) ?_
 refine aV 7 rfl (by kernel_rfl) (vM rfl) ?_
 refine aV 8 rfl (by kernel_rfl) (vM rfl) ?_
 refine aV 10 rfl (by kernel_rfl) (vF Tryz.underlying104 SZ23 rfl) ?_
 refine aV 11 rfl (by kernel_rfl) (vF Tryz.underlying23 SZ3 rfl) ?_
 refine aV 12 rfl (by kernel_rfl) (vL 0 Tryz.underlying3 rfl) ?_
 refine a_1 (i:=9) (by kernel_rfl) ?_
 refine i_e rfl rfl (eC [] #[.U a1] Tryz.func30 (by decide) rfl (fun w ht=>handle_Index_con a1 w _)) ?_
 refine ⟨(mem_pick (idx:=[0,1]) rfl),?_⟩
 refine aV 13 rfl (by kernel_rfl) (vR rfl) ?_
 refine aV 14 rfl (by kernel_rfl) (vP rfl) ?_
 refine aV 15 rfl (by kernel_rfl) (vA rfl) ?_
 refine a_end (by kernel_rfl) ?_
 have hq_0:=Option.some.inj H
 subst hq_0
 exact q_seq (c_frame (subF_spec (by exact ⟨rfl,trivial⟩)) (c_take [0,1] rfl (by decide) (J_ () trivial)))
 replace H:=ite_n (dec_f h12_) H
 refine r_any [.b b2_ (.cells (cfB p0 p1 p2 p3 p4 p5 p6 A0_7 l0_7.length c0_7) 104 (0,0)),.f (KU A0_7 c0_7 l0_7)] (by kernel_rfl) rfl (by kernel_rfl) (mem_pick (idx:=[0,1]) rfl) ?_
 refine aV 0 rfl (by kernel_rfl) (vM rfl) ?_
 refine a_1 (i:=1) (by kernel_rfl) ?_
 refine i_e rfl rfl (eC [] #[.U a1] Tryz.func115 (by decide) rfl (fun w ht=>handle_Valid_con a1 true e10_ w _)) ?_
 refine ⟨(mem_pick (idx:=[0,1]) rfl),?_⟩
 refine aV 2 rfl (by kernel_rfl) (vM rfl) ?_
 refine aV 3 rfl (by kernel_rfl) (vM rfl) ?_
 refine a_1 (i:=4) (by kernel_rfl) ?_
 refine i_e rfl rfl (eC [] #[.U a1] Tryz.func30 (by decide) rfl (fun w ht=>handle_Index_con a1 w _)) ?_
 refine ⟨(mem_pick (idx:=[0,1]) rfl),?_⟩
 refine aV 5 rfl (by kernel_rfl) (OpV.cast (v := .bool false) (vR rfl) (congrArg Value.bool h12_)) ?_
 refine aV 6 rfl (by kernel_rfl) (vP rfl) ?_
 refine aV 7 rfl (by kernel_rfl) (vM rfl) ?_
 refine aN 8 rfl (by kernel_rfl) ?_
 refine aN 9 rfl (by kernel_rfl) ?_
 refine aN 10 rfl (by kernel_rfl) ?_
 refine aN 11 rfl (by kernel_rfl) ?_
 refine aN 12 rfl (by kernel_rfl) ?_
 refine aN 13 rfl (by kernel_rfl) ?_
 refine aV 14 rfl (by kernel_rfl) (vP rfl) ?_
 refine aV 15 rfl (by kernel_rfl) (vA rfl) ?_
 refine a_end (by kernel_rfl) ?_
 have hq_0:=Option.some.inj H
 subst hq_0
 exact q_seq (c_frame (subF_spec (by exact ⟨rfl,trivial⟩)) (c_take [0,1] rfl (by decide) (J_ () trivial)))
 subst h11_
 replace H:=ite_n (by decide) H
 refine r_any [.b b2_ (.cells (cfB p0 p1 p2 p3 p4 p5 p6 A0_7 l0_7.length c0_7) 104 (0,0)),.f (KU A0_7 c0_7 l0_7)] (by kernel_rfl) rfl (by kernel_rfl) (mem_pick (idx:=[0,1]) rfl) ?_
 refine aV 0 rfl (by kernel_rfl) (vM rfl) ?_
 refine a_1 (i:=1) (by kernel_rfl) ?_
 refine i_e rfl rfl (eC [] #[.U a1] Tryz.func115 (by decide) rfl (fun w ht=>handle_Valid_con a1 false e10_ w _)) ?_
 refine ⟨(mem_pick (idx:=[0,1]) rfl),?_⟩
 refine aV 2 rfl (by kernel_rfl) (vM rfl) ?_
 refine aN 3 rfl (by kernel_rfl) ?_
 refine aN 4 rfl (by kernel_rfl) ?_
 refine aN 5 rfl (by kernel_rfl) ?_
 refine aV 6 rfl (by kernel_rfl) (vP rfl) ?_
 refine aV 7 rfl (by kernel_rfl) (vM rfl) ?_
 refine aN 8 rfl (by kernel_rfl) ?_
 refine aN 9 rfl (by kernel_rfl) ?_
 refine aN 10 rfl (by kernel_rfl) ?_
 refine aN 11 rfl (by kernel_rfl) ?_
 refine aN 12 rfl (by kernel_rfl) ?_
 refine aN 13 rfl (by kernel_rfl) ?_
 refine aV 14 rfl (by kernel_rfl) (vP rfl) ?_
 refine aV 15 rfl (by kernel_rfl) (vA rfl) ?_
 refine a_end (by kernel_rfl) ?_
 have hq_0:=Option.some.inj H
 subst hq_0
 exact q_seq (c_frame (subF_spec (by exact ⟨rfl,trivial⟩)) (c_take [0,1] rfl (by decide) (J_ () trivial)))
def plan_to.f (a0:Int) (a1:Int) (a2:Int):Option Int:=some (if (a1:Int)<(if (a2:Int)<a0 then a2 else a0) then (if (a2:Int)<a0 then a2 else a0) else a1)
set_option maxRecDepth 100000 in
set_option maxHeartbeats 4000000 in
theorem plan_to_con (a0:Int) (a1:Int) (a2:Int) (r0:Int) (h:plan_to.f a0 a1 a2=some r0) (w0:World) (Hs:List Nat):Con Tryz.prog 122 #[.I a0,.I a1,.I a2] w0 Hs [] (fun X=>X (.I r0) []):=by
 refine con_enter (c:=bodyOf Tryz.f122) Tryz.func122 rfl (m:=12) rfl rfl rfl ?_
 intro X hX _
 have H:=h
 unfold plan_to.f at H
 clear h
 refine c_seq rfl ?_
 refine r_ordb (l:=[0]) rfl (by kernel_rfl) ?_
 refine sA rfl ?_
 refine sE rfl ?_
 refine r_ordb (l:=[0,1,2,3,4,5]) rfl (by kernel_rfl) ?_
 refine sM rfl ?_
 refine sM rfl ?_
 refine sM rfl ?_
 refine sV rfl (v_min (x := .tmp 0) (y := .tmp 0) rfl rfl rfl) ?_
 refine sV rfl (v_max (x := .tmp 0) (y := .tmp 0) rfl rfl rfl) ?_
 refine sA rfl ?_
 refine sQ ?_
 refine c_ret rfl ?_
 have e_:=Option.some.inj H
 subst e_
 exact q_ret (vs:=[.I (if (a1:Int)<(if (a2:Int)<a0 then a2 else a0) then (if (a2:Int)<a0 then a2 else a0) else a1)]) rfl (.tmp rfl .nil) [] rfl (by decide) (hX)
def plan_Right.f (p0:Int) (p1:Int) (p2:Int) (p3:Int) (p4:Int) (p5:Int) (p6:Int):Option Bool:=(plan_to.f p0 1 8).bind fun t18_=>(plan_to.f p1 1 8).bind fun t20_=>(plan_to.f p2 1 64).bind fun t22_=>(plan_to.f p3 1 6).bind fun t24_=>(plan_to.f p4 1 64).bind fun t26_=>(plan_to.f p5 1 64).bind fun t28_=>(plan_to.f p6 0 1073741823).bind fun t30_=>some (((p0:Int) == t18_) && (((p1:Int) == t20_) && (((p2:Int) == t22_) && (((p3:Int) == t24_) && (((p4:Int) == t26_) && (((p5:Int) == t28_) && (((p6:Int) == t30_))))))))
set_option maxRecDepth 100000 in
set_option maxHeartbeats 4000000 in
theorem plan_Right_con (p0:Int) (p1:Int) (p2:Int) (p3:Int) (p4:Int) (p5:Int) (p6:Int) (r0:Bool) (h:plan_Right.f p0 p1 p2 p3 p4 p5 p6=some r0) (w0:World) (Hs:List Nat):Con Tryz.prog 85 #[.agg (cfA p0 p1 p2 p3 p4 p5 p6)] w0 Hs [] (fun X=>X (.bool r0) []):=by
 refine con_enter (c:=bodyOf Tryz.f85) Tryz.func85 rfl (m:=29) rfl rfl rfl ?_
 intro X hX _
 have H:=h
 unfold plan_Right.f at H
 clear h
 refine c_seq rfl ?_
 refine r_ordb (l:=[0,1]) rfl (by kernel_rfl) ?_
 refine s_e rfl rfl (e_box rfl rfl rfl rfl) ?_
 intro b2_
 refine sA rfl ?_
 refine sE rfl ?_
 obtain ⟨t18_,e19_,H⟩:=bind_s H
 obtain ⟨t20_,e21_,H⟩:=bind_s H
 obtain ⟨t22_,e23_,H⟩:=bind_s H
 obtain ⟨t24_,e25_,H⟩:=bind_s H
 obtain ⟨t26_,e27_,H⟩:=bind_s H
 obtain ⟨t28_,e29_,H⟩:=bind_s H
 obtain ⟨t30_,e31_,H⟩:=bind_s H
 refine r_any [.b b2_ (.cells (cfA p0 p1 p2 p3 p4 p5 p6) 23 (0,0))] (by kernel_rfl) rfl (by kernel_rfl) (mem_pick (idx:=[0]) rfl) ?_
 refine a_join (β:=Nat) 0 #[true,true,true,true,true,true,true,true,true,true,true,true,true,true,true,true,true,true,true,true,true,true,true,true] (fun bo22_1_=>[(0,.agg (cfA p0 p1 p2 p3 p4 p5 p6)),(1,.P b2_),(2,.bool false),(3,.P bo22_1_),(4,.P b2_),(5,.I p0),(6,.I t18_),(7,.pointer (some ⟨b2_,1,none⟩)),(8,.I p1),(9,.I t20_),(10,.pointer (some ⟨b2_,2,none⟩)),(11,.I p2),(12,.I t22_),(13,.pointer (some ⟨b2_,3,none⟩)),(14,.I p3),(15,.I t24_),(16,.pointer (some ⟨b2_,4,none⟩)),(17,.I p4),(18,.I t26_),(19,.pointer (some ⟨b2_,5,none⟩)),(20,.I p5),(21,.I t28_),(22,.pointer (some ⟨b2_,6,none⟩)),(23,.I p6),(24,.I t30_),(25,.agg (cfA t18_ t20_ t22_ t24_ t26_ t28_ t30_))]) (fun bo22_1_=>[.b b2_ (.cells (cfA p0 p1 p2 p3 p4 p5 p6) 23 (0,0)),.b bo22_1_ (.cells (cfA t18_ t20_ t22_ t24_ t26_ t28_ t30_) 23 (0,0))]) ?_ ?_
 rintro bo22_1_
 refine a_w (F:=[(0,.agg (cfA p0 p1 p2 p3 p4 p5 p6)),(1,.P b2_),(2,.bool false),(3,.P bo22_1_),(4,.P b2_),(5,.I p0),(6,.I t18_),(7,.pointer (some ⟨b2_,1,none⟩)),(8,.I p1),(9,.I t20_),(10,.pointer (some ⟨b2_,2,none⟩)),(11,.I p2),(12,.I t22_),(13,.pointer (some ⟨b2_,3,none⟩)),(14,.I p3),(15,.I t24_),(16,.pointer (some ⟨b2_,4,none⟩)),(17,.I p4),(18,.I t26_),(19,.pointer (some ⟨b2_,5,none⟩)),(20,.I p5),(21,.I t28_),(22,.pointer (some ⟨b2_,6,none⟩)),(23,.I p6),(24,.I t30_),(25,.agg (cfA t18_ t20_ t22_ t24_ t26_ t28_ t30_))]) (L:=[.b b2_ (.cells (cfA p0 p1 p2 p3 p4 p5 p6) 23 (0,0)),.b bo22_1_ (.cells (cfA t18_ t20_ t22_ t24_ t26_ t28_ t30_) 23 (0,0))]) ?_
 refine a_end (by kernel_rfl) ?_
 refine q_seq ?_
 refine c_seq rfl ?_
 refine r_ordb (l:=[0,1,2,3]) rfl (by kernel_rfl) ?_
 refine sV rfl (vLA (lfA p0 p1 p2 p3 p4 p5 p6) 0 Tryz.underlying23 SZ23 rfl) ?_
 refine sV rfl (vLA (lfA t18_ t20_ t22_ t24_ t26_ t28_ t30_) 1 Tryz.underlying23 SZ23 rfl) ?_
 refine sV rfl (v_eqA rfl rfl rfl (by kernel_rfl) (eqS23 p0 p1 p2 p3 p4 p5 p6 t18_ t20_ t22_ t24_ t26_ t28_ t30_)) ?_
 refine sA rfl ?_
 refine sQ ?_
 refine c_ret rfl ?_
 have e_:=Option.some.inj H
 subst e_
 exact q_ret (vs:=[.bool (((p0:Int) == t18_) && (((p1:Int) == t20_) && (((p2:Int) == t22_) && (((p3:Int) == t24_) && (((p4:Int) == t26_) && (((p5:Int) == t28_) && (((p6:Int) == t30_))))))))]) rfl (.tmp rfl .nil) [] rfl (by decide) (hX)
 intro J2_5_8_11_14_17_20_22_23
 refine a_join (β:=Nat) 1 #[true,true,true,true,true,true,true,true,true,true,true,true,true,true,true,true,true,true,true,true,true,true,true,false] (fun bo22_1_=>[(0,.agg (cfA p0 p1 p2 p3 p4 p5 p6)),(1,.P b2_),(2,.bool false),(3,.P bo22_1_),(4,.P b2_),(5,.I p0),(6,.I t18_),(7,.pointer (some ⟨b2_,1,none⟩)),(8,.I p1),(9,.I t20_),(10,.pointer (some ⟨b2_,2,none⟩)),(11,.I p2),(12,.I t22_),(13,.pointer (some ⟨b2_,3,none⟩)),(14,.I p3),(15,.I t24_),(16,.pointer (some ⟨b2_,4,none⟩)),(17,.I p4),(18,.I t26_),(19,.pointer (some ⟨b2_,5,none⟩)),(20,.I p5),(21,.I t28_),(22,.pointer (some ⟨b2_,6,none⟩)),(23,.I p6),(24,.I t30_),(25,.agg (cfA t18_ t20_ t22_ t24_ t26_ t28_ t30_))]) (fun bo22_1_=>[.b b2_ (.cells (cfA p0 p1 p2 p3 p4 p5 p6) 23 (0,0)),.b bo22_1_ (.cells (cfA 0 0 0 0 0 0 0) 23 (0,0))]) ?_ ?_
 rintro bo22_1_
 refine a_w (F:=[(0,.agg (cfA p0 p1 p2 p3 p4 p5 p6)),(1,.P b2_),(2,.bool false),(3,.P bo22_1_),(4,.P b2_),(5,.I p0),(6,.I t18_),(7,.pointer (some ⟨b2_,1,none⟩)),(8,.I p1),(9,.I t20_),(10,.pointer (some ⟨b2_,2,none⟩)),(11,.I p2),(12,.I t22_),(13,.pointer (some ⟨b2_,3,none⟩)),(14,.I p3),(15,.I t24_),(16,.pointer (some ⟨b2_,4,none⟩)),(17,.I p4),(18,.I t26_),(19,.pointer (some ⟨b2_,5,none⟩)),(20,.I p5),(21,.I t28_),(22,.pointer (some ⟨b2_,6,none⟩)),(23,.I p6),(24,.I t30_),(25,.agg (cfA t18_ t20_ t22_ t24_ t26_ t28_ t30_))]) (L:=[.b b2_ (.cells (cfA p0 p1 p2 p3 p4 p5 p6) 23 (0,0)),.b bo22_1_ (.cells (cfA 0 0 0 0 0 0 0) 23 (0,0))]) ?_
 refine a_1 (i:=23) (by kernel_rfl) ?_
 refine i_e rfl rfl (e_stA 1 rfl rfl SZ23 rfl rfl rfl rfl rfl rfl) ?_
 refine ⟨(mem_pick (idx:=[0]) rfl),?_⟩
 exact a_take (J2_5_8_11_14_17_20_22_23 bo22_1_) [0,1] (by kernel_rfl) rfl (subF_spec ⟨rfl,rfl,rfl,rfl,rfl,rfl,rfl,rfl,rfl,rfl,rfl,rfl,rfl,rfl,rfl,rfl,rfl,rfl,rfl,rfl,rfl,rfl,rfl,rfl,rfl,rfl,trivial⟩) rfl (by decide)
 intro J2_5_8_11_14_17_20_22
 refine a_join (β:=Unit) 2 #[true,true,true,true,true,true,true,true,true,true,true,true,true,true,true,true,true,true,true,true,true,true,false,false] (fun _=>[(0,.agg (cfA p0 p1 p2 p3 p4 p5 p6)),(1,.P b2_),(2,.bool false),(4,.P b2_),(5,.I p0),(6,.I t18_),(7,.pointer (some ⟨b2_,1,none⟩)),(8,.I p1),(9,.I t20_),(10,.pointer (some ⟨b2_,2,none⟩)),(11,.I p2),(12,.I t22_),(13,.pointer (some ⟨b2_,3,none⟩)),(14,.I p3),(15,.I t24_),(16,.pointer (some ⟨b2_,4,none⟩)),(17,.I p4),(18,.I t26_),(19,.pointer (some ⟨b2_,5,none⟩)),(20,.I p5),(21,.I t28_),(22,.pointer (some ⟨b2_,6,none⟩)),(23,.I p6),(24,.I t30_),(25,.agg (cfA t18_ t20_ t22_ t24_ t26_ t28_ t30_))]) (fun _=>[.b b2_ (.cells (cfA p0 p1 p2 p3 p4 p5 p6) 23 (0,0))]) ?_ ?_
 rintro _
 refine a_w (F:=[(0,.agg (cfA p0 p1 p2 p3 p4 p5 p6)),(1,.P b2_),(2,.bool false),(4,.P b2_),(5,.I p0),(6,.I t18_),(7,.pointer (some ⟨b2_,1,none⟩)),(8,.I p1),(9,.I t20_),(10,.pointer (some ⟨b2_,2,none⟩)),(11,.I p2),(12,.I t22_),(13,.pointer (some ⟨b2_,3,none⟩)),(14,.I p3),(15,.I t24_),(16,.pointer (some ⟨b2_,4,none⟩)),(17,.I p4),(18,.I t26_),(19,.pointer (some ⟨b2_,5,none⟩)),(20,.I p5),(21,.I t28_),(22,.pointer (some ⟨b2_,6,none⟩)),(23,.I p6),(24,.I t30_),(25,.agg (cfA t18_ t20_ t22_ t24_ t26_ t28_ t30_))]) (L:=[.b b2_ (.cells (cfA p0 p1 p2 p3 p4 p5 p6) 23 (0,0))]) ?_
 refine a_1 (i:=22) (by kernel_rfl) ?_
 refine i_e rfl rfl (e_alloc rfl rfl rfl ZR23) ?_
 intro bo22_1_
 refine ⟨(mem_pick (idx:=[1]) rfl),?_⟩
 exact a_take (J2_5_8_11_14_17_20_22 bo22_1_) [1,0] (by kernel_rfl) rfl (subF_spec ⟨rfl,rfl,rfl,rfl,rfl,rfl,rfl,rfl,rfl,rfl,rfl,rfl,rfl,rfl,rfl,rfl,rfl,rfl,rfl,rfl,rfl,rfl,rfl,rfl,rfl,rfl,trivial⟩) rfl (by decide)
 intro J2_5_8_11_14_17_20
 refine a_join (β:=Nat) 3 #[true,true,true,true,true,true,true,true,true,true,true,true,true,true,true,true,true,true,true,true,false,false,true,false] (fun bo22_1_=>[(0,.agg (cfA p0 p1 p2 p3 p4 p5 p6)),(1,.P b2_),(2,.bool false),(3,.P bo22_1_),(4,.P b2_),(5,.I p0),(6,.I t18_),(7,.pointer (some ⟨b2_,1,none⟩)),(8,.I p1),(9,.I t20_),(10,.pointer (some ⟨b2_,2,none⟩)),(11,.I p2),(12,.I t22_),(13,.pointer (some ⟨b2_,3,none⟩)),(14,.I p3),(15,.I t24_),(16,.pointer (some ⟨b2_,4,none⟩)),(17,.I p4),(18,.I t26_),(19,.pointer (some ⟨b2_,5,none⟩)),(20,.I p5),(21,.I t28_),(22,.pointer (some ⟨b2_,6,none⟩)),(23,.I p6)]) (fun bo22_1_=>[.b b2_ (.cells (cfA p0 p1 p2 p3 p4 p5 p6) 23 (0,0)),.b bo22_1_ (.cells (cfA 0 0 0 0 0 0 0) 23 (0,0))]) ?_ ?_
 rintro bo22_1_
 refine a_w (F:=[(0,.agg (cfA p0 p1 p2 p3 p4 p5 p6)),(1,.P b2_),(2,.bool false),(3,.P bo22_1_),(4,.P b2_),(5,.I p0),(6,.I t18_),(7,.pointer (some ⟨b2_,1,none⟩)),(8,.I p1),(9,.I t20_),(10,.pointer (some ⟨b2_,2,none⟩)),(11,.I p2),(12,.I t22_),(13,.pointer (some ⟨b2_,3,none⟩)),(14,.I p3),(15,.I t24_),(16,.pointer (some ⟨b2_,4,none⟩)),(17,.I p4),(18,.I t26_),(19,.pointer (some ⟨b2_,5,none⟩)),(20,.I p5),(21,.I t28_),(22,.pointer (some ⟨b2_,6,none⟩)),(23,.I p6)]) (L:=[.b b2_ (.cells (cfA p0 p1 p2 p3 p4 p5 p6) 23 (0,0)),.b bo22_1_ (.cells (cfA 0 0 0 0 0 0 0) 23 (0,0))]) ?_
 refine a_1 (i:=20) (by kernel_rfl) ?_
 refine i_e rfl rfl (eC [] #[.I p6,.I 0,.I 1073741823] Tryz.func122 (by decide) rfl (fun w ht=>plan_to_con p6 0 1073741823 t30_ e31_ w _)) ?_
 refine ⟨(mem_pick (idx:=[0]) rfl),?_⟩
 refine aV 21 rfl (by kernel_rfl) (v_build (places:=#[(0,1),(1,1),(2,1),(3,1),(4,1),(5,1),(6,1)]) (cfA t18_ t20_ t22_ t24_ t26_ t28_ t30_) rfl ZR23 Tryz.underlying23 (by kernel_rfl) rfl (by kernel_rfl)) ?_
 exact a_take (J2_5_8_11_14_17_20_22 bo22_1_) [0,1] (by kernel_rfl) rfl (subF_spec ⟨rfl,rfl,rfl,rfl,rfl,rfl,rfl,rfl,rfl,rfl,rfl,rfl,rfl,rfl,rfl,rfl,rfl,rfl,rfl,rfl,rfl,rfl,rfl,rfl,rfl,rfl,trivial⟩) rfl (by decide)
 intro J2_5_8_11_14_17_22
 refine a_join (β:=Unit) 4 #[true,true,true,true,true,true,true,true,true,true,true,true,true,true,true,true,true,true,true,true,false,false,false,false] (fun _=>[(0,.agg (cfA p0 p1 p2 p3 p4 p5 p6)),(1,.P b2_),(2,.bool false),(4,.P b2_),(5,.I p0),(6,.I t18_),(7,.pointer (some ⟨b2_,1,none⟩)),(8,.I p1),(9,.I t20_),(10,.pointer (some ⟨b2_,2,none⟩)),(11,.I p2),(12,.I t22_),(13,.pointer (some ⟨b2_,3,none⟩)),(14,.I p3),(15,.I t24_),(16,.pointer (some ⟨b2_,4,none⟩)),(17,.I p4),(18,.I t26_),(19,.pointer (some ⟨b2_,5,none⟩)),(20,.I p5),(21,.I t28_),(22,.pointer (some ⟨b2_,6,none⟩)),(23,.I p6)]) (fun _=>[.b b2_ (.cells (cfA p0 p1 p2 p3 p4 p5 p6) 23 (0,0))]) ?_ ?_
 rintro _
 refine a_w (F:=[(0,.agg (cfA p0 p1 p2 p3 p4 p5 p6)),(1,.P b2_),(2,.bool false),(4,.P b2_),(5,.I p0),(6,.I t18_),(7,.pointer (some ⟨b2_,1,none⟩)),(8,.I p1),(9,.I t20_),(10,.pointer (some ⟨b2_,2,none⟩)),(11,.I p2),(12,.I t22_),(13,.pointer (some ⟨b2_,3,none⟩)),(14,.I p3),(15,.I t24_),(16,.pointer (some ⟨b2_,4,none⟩)),(17,.I p4),(18,.I t26_),(19,.pointer (some ⟨b2_,5,none⟩)),(20,.I p5),(21,.I t28_),(22,.pointer (some ⟨b2_,6,none⟩)),(23,.I p6)]) (L:=[.b b2_ (.cells (cfA p0 p1 p2 p3 p4 p5 p6) 23 (0,0))]) ?_
 refine a_2 (i:=20) (j:=22) (by kernel_rfl) ?_ ?_
 refine i_e rfl rfl (eC [] #[.I p6,.I 0,.I 1073741823] Tryz.func122 (by decide) rfl (fun w ht=>plan_to_con p6 0 1073741823 t30_ e31_ w _)) ?_
 refine ⟨(mem_pick (idx:=[0]) rfl),?_⟩
 refine aV 21 rfl (by kernel_rfl) (v_build (places:=#[(0,1),(1,1),(2,1),(3,1),(4,1),(5,1),(6,1)]) (cfA t18_ t20_ t22_ t24_ t26_ t28_ t30_) rfl ZR23 Tryz.underlying23 (by kernel_rfl) rfl (by kernel_rfl)) ?_
 exact a_take (J2_5_8_11_14_17_20 ()) [0] (by kernel_rfl) rfl (subF_spec ⟨rfl,rfl,rfl,rfl,rfl,rfl,rfl,rfl,rfl,rfl,rfl,rfl,rfl,rfl,rfl,rfl,rfl,rfl,rfl,rfl,rfl,rfl,rfl,rfl,rfl,trivial⟩) rfl (by decide)
 refine i_e rfl rfl (e_alloc rfl rfl rfl ZR23) ?_
 intro bo22_1_
 refine ⟨(mem_pick (idx:=[1]) rfl),?_⟩
 exact a_take (J2_5_8_11_14_17_22 bo22_1_) [1,0] (by kernel_rfl) rfl (subF_spec ⟨rfl,rfl,rfl,rfl,rfl,rfl,rfl,rfl,rfl,rfl,rfl,rfl,rfl,rfl,rfl,rfl,rfl,rfl,rfl,rfl,rfl,rfl,rfl,rfl,trivial⟩) rfl (by decide)
 intro J2_5_8_11_14_17
 refine a_join (β:=Nat) 4 #[true,true,true,true,true,true,true,true,true,true,true,true,true,true,true,true,true,false,true,true,false,false,true,false] (fun bo22_1_=>[(0,.agg (cfA p0 p1 p2 p3 p4 p5 p6)),(1,.P b2_),(2,.bool false),(3,.P bo22_1_),(4,.P b2_),(5,.I p0),(6,.I t18_),(7,.pointer (some ⟨b2_,1,none⟩)),(8,.I p1),(9,.I t20_),(10,.pointer (some ⟨b2_,2,none⟩)),(11,.I p2),(12,.I t22_),(13,.pointer (some ⟨b2_,3,none⟩)),(14,.I p3),(15,.I t24_),(16,.pointer (some ⟨b2_,4,none⟩)),(17,.I p4),(18,.I t26_),(19,.pointer (some ⟨b2_,5,none⟩)),(20,.I p5),(22,.pointer (some ⟨b2_,6,none⟩)),(23,.I p6)]) (fun bo22_1_=>[.b b2_ (.cells (cfA p0 p1 p2 p3 p4 p5 p6) 23 (0,0)),.b bo22_1_ (.cells (cfA 0 0 0 0 0 0 0) 23 (0,0))]) ?_ ?_
 rintro bo22_1_
 refine a_w (F:=[(0,.agg (cfA p0 p1 p2 p3 p4 p5 p6)),(1,.P b2_),(2,.bool false),(3,.P bo22_1_),(4,.P b2_),(5,.I p0),(6,.I t18_),(7,.pointer (some ⟨b2_,1,none⟩)),(8,.I p1),(9,.I t20_),(10,.pointer (some ⟨b2_,2,none⟩)),(11,.I p2),(12,.I t22_),(13,.pointer (some ⟨b2_,3,none⟩)),(14,.I p3),(15,.I t24_),(16,.pointer (some ⟨b2_,4,none⟩)),(17,.I p4),(18,.I t26_),(19,.pointer (some ⟨b2_,5,none⟩)),(20,.I p5),(22,.pointer (some ⟨b2_,6,none⟩)),(23,.I p6)]) (L:=[.b b2_ (.cells (cfA p0 p1 p2 p3 p4 p5 p6) 23 (0,0)),.b bo22_1_ (.cells (cfA 0 0 0 0 0 0 0) 23 (0,0))]) ?_
 refine a_1 (i:=17) (by kernel_rfl) ?_
 refine i_e rfl rfl (eC [] #[.I p5,.I 1,.I 64] Tryz.func122 (by decide) rfl (fun w ht=>plan_to_con p5 1 64 t28_ e29_ w _)) ?_
 refine ⟨(mem_pick (idx:=[0]) rfl),?_⟩
 exact a_take (J2_5_8_11_14_17_22 bo22_1_) [0,1] (by kernel_rfl) rfl (subF_spec ⟨rfl,rfl,rfl,rfl,rfl,rfl,rfl,rfl,rfl,rfl,rfl,rfl,rfl,rfl,rfl,rfl,rfl,rfl,rfl,rfl,rfl,rfl,rfl,rfl,trivial⟩) rfl (by decide)
 intro J2_5_8_11_14_22
 refine a_join (β:=Unit) 5 #[true,true,true,true,true,true,true,true,true,true,true,true,true,true,true,true,true,false,true,true,false,false,false,false] (fun _=>[(0,.agg (cfA p0 p1 p2 p3 p4 p5 p6)),(1,.P b2_),(2,.bool false),(4,.P b2_),(5,.I p0),(6,.I t18_),(7,.pointer (some ⟨b2_,1,none⟩)),(8,.I p1),(9,.I t20_),(10,.pointer (some ⟨b2_,2,none⟩)),(11,.I p2),(12,.I t22_),(13,.pointer (some ⟨b2_,3,none⟩)),(14,.I p3),(15,.I t24_),(16,.pointer (some ⟨b2_,4,none⟩)),(17,.I p4),(18,.I t26_),(19,.pointer (some ⟨b2_,5,none⟩)),(20,.I p5),(22,.pointer (some ⟨b2_,6,none⟩)),(23,.I p6)]) (fun _=>[.b b2_ (.cells (cfA p0 p1 p2 p3 p4 p5 p6) 23 (0,0))]) ?_ ?_
 rintro _
 refine a_w (F:=[(0,.agg (cfA p0 p1 p2 p3 p4 p5 p6)),(1,.P b2_),(2,.bool false),(4,.P b2_),(5,.I p0),(6,.I t18_),(7,.pointer (some ⟨b2_,1,none⟩)),(8,.I p1),(9,.I t20_),(10,.pointer (some ⟨b2_,2,none⟩)),(11,.I p2),(12,.I t22_),(13,.pointer (some ⟨b2_,3,none⟩)),(14,.I p3),(15,.I t24_),(16,.pointer (some ⟨b2_,4,none⟩)),(17,.I p4),(18,.I t26_),(19,.pointer (some ⟨b2_,5,none⟩)),(20,.I p5),(22,.pointer (some ⟨b2_,6,none⟩)),(23,.I p6)]) (L:=[.b b2_ (.cells (cfA p0 p1 p2 p3 p4 p5 p6) 23 (0,0))]) ?_
 refine a_2 (i:=17) (j:=22) (by kernel_rfl) ?_ ?_
 refine i_e rfl rfl (eC [] #[.I p5,.I 1,.I 64] Tryz.func122 (by decide) rfl (fun w ht=>plan_to_con p5 1 64 t28_ e29_ w _)) ?_
 refine ⟨(mem_pick (idx:=[0]) rfl),?_⟩
 exact a_take (J2_5_8_11_14_17 ()) [0] (by kernel_rfl) rfl (subF_spec ⟨rfl,rfl,rfl,rfl,rfl,rfl,rfl,rfl,rfl,rfl,rfl,rfl,rfl,rfl,rfl,rfl,rfl,rfl,rfl,rfl,rfl,rfl,rfl,trivial⟩) rfl (by decide)
 refine i_e rfl rfl (e_alloc rfl rfl rfl ZR23) ?_
 intro bo22_1_
 refine ⟨(mem_pick (idx:=[1]) rfl),?_⟩
 exact a_take (J2_5_8_11_14_22 bo22_1_) [1,0] (by kernel_rfl) rfl (subF_spec ⟨rfl,rfl,rfl,rfl,rfl,rfl,rfl,rfl,rfl,rfl,rfl,rfl,rfl,rfl,rfl,rfl,rfl,rfl,rfl,rfl,rfl,rfl,rfl,trivial⟩) rfl (by decide)
 intro J2_5_8_11_14
 refine a_join (β:=Nat) 5 #[true,true,true,true,true,true,true,true,true,true,true,true,true,true,false,true,true,false,true,true,false,false,true,false] (fun bo22_1_=>[(0,.agg (cfA p0 p1 p2 p3 p4 p5 p6)),(1,.P b2_),(2,.bool false),(3,.P bo22_1_),(4,.P b2_),(5,.I p0),(6,.I t18_),(7,.pointer (some ⟨b2_,1,none⟩)),(8,.I p1),(9,.I t20_),(10,.pointer (some ⟨b2_,2,none⟩)),(11,.I p2),(12,.I t22_),(13,.pointer (some ⟨b2_,3,none⟩)),(14,.I p3),(15,.I t24_),(16,.pointer (some ⟨b2_,4,none⟩)),(17,.I p4),(19,.pointer (some ⟨b2_,5,none⟩)),(20,.I p5),(22,.pointer (some ⟨b2_,6,none⟩)),(23,.I p6)]) (fun bo22_1_=>[.b b2_ (.cells (cfA p0 p1 p2 p3 p4 p5 p6) 23 (0,0)),.b bo22_1_ (.cells (cfA 0 0 0 0 0 0 0) 23 (0,0))]) ?_ ?_
 rintro bo22_1_
 refine a_w (F:=[(0,.agg (cfA p0 p1 p2 p3 p4 p5 p6)),(1,.P b2_),(2,.bool false),(3,.P bo22_1_),(4,.P b2_),(5,.I p0),(6,.I t18_),(7,.pointer (some ⟨b2_,1,none⟩)),(8,.I p1),(9,.I t20_),(10,.pointer (some ⟨b2_,2,none⟩)),(11,.I p2),(12,.I t22_),(13,.pointer (some ⟨b2_,3,none⟩)),(14,.I p3),(15,.I t24_),(16,.pointer (some ⟨b2_,4,none⟩)),(17,.I p4),(19,.pointer (some ⟨b2_,5,none⟩)),(20,.I p5),(22,.pointer (some ⟨b2_,6,none⟩)),(23,.I p6)]) (L:=[.b b2_ (.cells (cfA p0 p1 p2 p3 p4 p5 p6) 23 (0,0)),.b bo22_1_ (.cells (cfA 0 0 0 0 0 0 0) 23 (0,0))]) ?_
 refine a_1 (i:=14) (by kernel_rfl) ?_
 refine i_e rfl rfl (eC [] #[.I p4,.I 1,.I 64] Tryz.func122 (by decide) rfl (fun w ht=>plan_to_con p4 1 64 t26_ e27_ w _)) ?_
 refine ⟨(mem_pick (idx:=[0]) rfl),?_⟩
 exact a_take (J2_5_8_11_14_22 bo22_1_) [0,1] (by kernel_rfl) rfl (subF_spec ⟨rfl,rfl,rfl,rfl,rfl,rfl,rfl,rfl,rfl,rfl,rfl,rfl,rfl,rfl,rfl,rfl,rfl,rfl,rfl,rfl,rfl,rfl,rfl,trivial⟩) rfl (by decide)
 intro J2_5_8_11_22
 refine a_join (β:=Unit) 6 #[true,true,true,true,true,true,true,true,true,true,true,true,true,true,false,true,true,false,true,true,false,false,false,false] (fun _=>[(0,.agg (cfA p0 p1 p2 p3 p4 p5 p6)),(1,.P b2_),(2,.bool false),(4,.P b2_),(5,.I p0),(6,.I t18_),(7,.pointer (some ⟨b2_,1,none⟩)),(8,.I p1),(9,.I t20_),(10,.pointer (some ⟨b2_,2,none⟩)),(11,.I p2),(12,.I t22_),(13,.pointer (some ⟨b2_,3,none⟩)),(14,.I p3),(15,.I t24_),(16,.pointer (some ⟨b2_,4,none⟩)),(17,.I p4),(19,.pointer (some ⟨b2_,5,none⟩)),(20,.I p5),(22,.pointer (some ⟨b2_,6,none⟩)),(23,.I p6)]) (fun _=>[.b b2_ (.cells (cfA p0 p1 p2 p3 p4 p5 p6) 23 (0,0))]) ?_ ?_
 rintro _
 refine a_w (F:=[(0,.agg (cfA p0 p1 p2 p3 p4 p5 p6)),(1,.P b2_),(2,.bool false),(4,.P b2_),(5,.I p0),(6,.I t18_),(7,.pointer (some ⟨b2_,1,none⟩)),(8,.I p1),(9,.I t20_),(10,.pointer (some ⟨b2_,2,none⟩)),(11,.I p2),(12,.I t22_),(13,.pointer (some ⟨b2_,3,none⟩)),(14,.I p3),(15,.I t24_),(16,.pointer (some ⟨b2_,4,none⟩)),(17,.I p4),(19,.pointer (some ⟨b2_,5,none⟩)),(20,.I p5),(22,.pointer (some ⟨b2_,6,none⟩)),(23,.I p6)]) (L:=[.b b2_ (.cells (cfA p0 p1 p2 p3 p4 p5 p6) 23 (0,0))]) ?_
 refine a_2 (i:=14) (j:=22) (by kernel_rfl) ?_ ?_
 refine i_e rfl rfl (eC [] #[.I p4,.I 1,.I 64] Tryz.func122 (by decide) rfl (fun w ht=>plan_to_con p4 1 64 t26_ e27_ w _)) ?_
 refine ⟨(mem_pick (idx:=[0]) rfl),?_⟩
 exact a_take (J2_5_8_11_14 ()) [0] (by kernel_rfl) rfl (subF_spec ⟨rfl,rfl,rfl,rfl,rfl,rfl,rfl,rfl,rfl,rfl,rfl,rfl,rfl,rfl,rfl,rfl,rfl,rfl,rfl,rfl,rfl,rfl,trivial⟩) rfl (by decide)
 refine i_e rfl rfl (e_alloc rfl rfl rfl ZR23) ?_
 intro bo22_1_
 refine ⟨(mem_pick (idx:=[1]) rfl),?_⟩
 exact a_take (J2_5_8_11_22 bo22_1_) [1,0] (by kernel_rfl) rfl (subF_spec ⟨rfl,rfl,rfl,rfl,rfl,rfl,rfl,rfl,rfl,rfl,rfl,rfl,rfl,rfl,rfl,rfl,rfl,rfl,rfl,rfl,rfl,rfl,trivial⟩) rfl (by decide)
 intro J2_5_8_11
 refine a_join (β:=Nat) 6 #[true,true,true,true,true,true,true,true,true,true,true,false,true,true,false,true,true,false,true,true,false,false,true,false] (fun bo22_1_=>[(0,.agg (cfA p0 p1 p2 p3 p4 p5 p6)),(1,.P b2_),(2,.bool false),(3,.P bo22_1_),(4,.P b2_),(5,.I p0),(6,.I t18_),(7,.pointer (some ⟨b2_,1,none⟩)),(8,.I p1),(9,.I t20_),(10,.pointer (some ⟨b2_,2,none⟩)),(11,.I p2),(12,.I t22_),(13,.pointer (some ⟨b2_,3,none⟩)),(14,.I p3),(16,.pointer (some ⟨b2_,4,none⟩)),(17,.I p4),(19,.pointer (some ⟨b2_,5,none⟩)),(20,.I p5),(22,.pointer (some ⟨b2_,6,none⟩)),(23,.I p6)]) (fun bo22_1_=>[.b b2_ (.cells (cfA p0 p1 p2 p3 p4 p5 p6) 23 (0,0)),.b bo22_1_ (.cells (cfA 0 0 0 0 0 0 0) 23 (0,0))]) ?_ ?_
 rintro bo22_1_
 refine a_w (F:=[(0,.agg (cfA p0 p1 p2 p3 p4 p5 p6)),(1,.P b2_),(2,.bool false),(3,.P bo22_1_),(4,.P b2_),(5,.I p0),(6,.I t18_),(7,.pointer (some ⟨b2_,1,none⟩)),(8,.I p1),(9,.I t20_),(10,.pointer (some ⟨b2_,2,none⟩)),(11,.I p2),(12,.I t22_),(13,.pointer (some ⟨b2_,3,none⟩)),(14,.I p3),(16,.pointer (some ⟨b2_,4,none⟩)),(17,.I p4),(19,.pointer (some ⟨b2_,5,none⟩)),(20,.I p5),(22,.pointer (some ⟨b2_,6,none⟩)),(23,.I p6)]) (L:=[.b b2_ (.cells (cfA p0 p1 p2 p3 p4 p5 p6) 23 (0,0)),.b bo22_1_ (.cells (cfA 0 0 0 0 0 0 0) 23 (0,0))]) ?_
 refine a_1 (i:=11) (by kernel_rfl) ?_
 refine i_e rfl rfl (eC [] #[.I p3,.I 1,.I 6] Tryz.func122 (by decide) rfl (fun w ht=>plan_to_con p3 1 6 t24_ e25_ w _)) ?_
 refine ⟨(mem_pick (idx:=[0]) rfl),?_⟩
 exact a_take (J2_5_8_11_22 bo22_1_) [0,1] (by kernel_rfl) rfl (subF_spec ⟨rfl,rfl,rfl,rfl,rfl,rfl,rfl,rfl,rfl,rfl,rfl,rfl,rfl,rfl,rfl,rfl,rfl,rfl,rfl,rfl,rfl,rfl,trivial⟩) rfl (by decide)
 intro J2_5_8_22
 refine a_join (β:=Unit) 7 #[true,true,true,true,true,true,true,true,true,true,true,false,true,true,false,true,true,false,true,true,false,false,false,false] (fun _=>[(0,.agg (cfA p0 p1 p2 p3 p4 p5 p6)),(1,.P b2_),(2,.bool false),(4,.P b2_),(5,.I p0),(6,.I t18_),(7,.pointer (some ⟨b2_,1,none⟩)),(8,.I p1),(9,.I t20_),(10,.pointer (some ⟨b2_,2,none⟩)),(11,.I p2),(12,.I t22_),(13,.pointer (some ⟨b2_,3,none⟩)),(14,.I p3),(16,.pointer (some ⟨b2_,4,none⟩)),(17,.I p4),(19,.pointer (some ⟨b2_,5,none⟩)),(20,.I p5),(22,.pointer (some ⟨b2_,6,none⟩)),(23,.I p6)]) (fun _=>[.b b2_ (.cells (cfA p0 p1 p2 p3 p4 p5 p6) 23 (0,0))]) ?_ ?_
 rintro _
 refine a_w (F:=[(0,.agg (cfA p0 p1 p2 p3 p4 p5 p6)),(1,.P b2_),(2,.bool false),(4,.P b2_),(5,.I p0),(6,.I t18_),(7,.pointer (some ⟨b2_,1,none⟩)),(8,.I p1),(9,.I t20_),(10,.pointer (some ⟨b2_,2,none⟩)),(11,.I p2),(12,.I t22_),(13,.pointer (some ⟨b2_,3,none⟩)),(14,.I p3),(16,.pointer (some ⟨b2_,4,none⟩)),(17,.I p4),(19,.pointer (some ⟨b2_,5,none⟩)),(20,.I p5),(22,.pointer (some ⟨b2_,6,none⟩)),(23,.I p6)]) (L:=[.b b2_ (.cells (cfA p0 p1 p2 p3 p4 p5 p6) 23 (0,0))]) ?_
 refine a_2 (i:=11) (j:=22) (by kernel_rfl) ?_ ?_
 refine i_e rfl rfl (eC [] #[.I p3,.I 1,.I 6] Tryz.func122 (by decide) rfl (fun w ht=>plan_to_con p3 1 6 t24_ e25_ w _)) ?_
 refine ⟨(mem_pick (idx:=[0]) rfl),?_⟩
 exact a_take (J2_5_8_11 ()) [0] (by kernel_rfl) rfl (subF_spec ⟨rfl,rfl,rfl,rfl,rfl,rfl,rfl,rfl,rfl,rfl,rfl,rfl,rfl,rfl,rfl,rfl,rfl,rfl,rfl,rfl,rfl,trivial⟩) rfl (by decide)
 refine i_e rfl rfl (e_alloc rfl rfl rfl ZR23) ?_
 intro bo22_1_
 refine ⟨(mem_pick (idx:=[1]) rfl),?_⟩
 exact a_take (J2_5_8_22 bo22_1_) [1,0] (by kernel_rfl) rfl (subF_spec ⟨rfl,rfl,rfl,rfl,rfl,rfl,rfl,rfl,rfl,rfl,rfl,rfl,rfl,rfl,rfl,rfl,rfl,rfl,rfl,rfl,rfl,trivial⟩) rfl (by decide)
 intro J2_5_8
 refine a_join (β:=Nat) 7 #[true,true,true,true,true,true,true,true,false,true,true,false,true,true,false,true,true,false,true,true,false,false,true,false] (fun bo22_1_=>[(0,.agg (cfA p0 p1 p2 p3 p4 p5 p6)),(1,.P b2_),(2,.bool false),(3,.P bo22_1_),(4,.P b2_),(5,.I p0),(6,.I t18_),(7,.pointer (some ⟨b2_,1,none⟩)),(8,.I p1),(9,.I t20_),(10,.pointer (some ⟨b2_,2,none⟩)),(11,.I p2),(13,.pointer (some ⟨b2_,3,none⟩)),(14,.I p3),(16,.pointer (some ⟨b2_,4,none⟩)),(17,.I p4),(19,.pointer (some ⟨b2_,5,none⟩)),(20,.I p5),(22,.pointer (some ⟨b2_,6,none⟩)),(23,.I p6)]) (fun bo22_1_=>[.b b2_ (.cells (cfA p0 p1 p2 p3 p4 p5 p6) 23 (0,0)),.b bo22_1_ (.cells (cfA 0 0 0 0 0 0 0) 23 (0,0))]) ?_ ?_
 rintro bo22_1_
 refine a_w (F:=[(0,.agg (cfA p0 p1 p2 p3 p4 p5 p6)),(1,.P b2_),(2,.bool false),(3,.P bo22_1_),(4,.P b2_),(5,.I p0),(6,.I t18_),(7,.pointer (some ⟨b2_,1,none⟩)),(8,.I p1),(9,.I t20_),(10,.pointer (some ⟨b2_,2,none⟩)),(11,.I p2),(13,.pointer (some ⟨b2_,3,none⟩)),(14,.I p3),(16,.pointer (some ⟨b2_,4,none⟩)),(17,.I p4),(19,.pointer (some ⟨b2_,5,none⟩)),(20,.I p5),(22,.pointer (some ⟨b2_,6,none⟩)),(23,.I p6)]) (L:=[.b b2_ (.cells (cfA p0 p1 p2 p3 p4 p5 p6) 23 (0,0)),.b bo22_1_ (.cells (cfA 0 0 0 0 0 0 0) 23 (0,0))]) ?_
 refine a_1 (i:=8) (by kernel_rfl) ?_
 refine i_e rfl rfl (eC [] #[.I p2,.I 1,.I 64] Tryz.func122 (by decide) rfl (fun w ht=>plan_to_con p2 1 64 t22_ e23_ w _)) ?_
 refine ⟨(mem_pick (idx:=[0]) rfl),?_⟩
 exact a_take (J2_5_8_22 bo22_1_) [0,1] (by kernel_rfl) rfl (subF_spec ⟨rfl,rfl,rfl,rfl,rfl,rfl,rfl,rfl,rfl,rfl,rfl,rfl,rfl,rfl,rfl,rfl,rfl,rfl,rfl,rfl,rfl,trivial⟩) rfl (by decide)
 intro J2_5_22
 refine a_join (β:=Unit) 8 #[true,true,true,true,true,true,true,true,false,true,true,false,true,true,false,true,true,false,true,true,false,false,false,false] (fun _=>[(0,.agg (cfA p0 p1 p2 p3 p4 p5 p6)),(1,.P b2_),(2,.bool false),(4,.P b2_),(5,.I p0),(6,.I t18_),(7,.pointer (some ⟨b2_,1,none⟩)),(8,.I p1),(9,.I t20_),(10,.pointer (some ⟨b2_,2,none⟩)),(11,.I p2),(13,.pointer (some ⟨b2_,3,none⟩)),(14,.I p3),(16,.pointer (some ⟨b2_,4,none⟩)),(17,.I p4),(19,.pointer (some ⟨b2_,5,none⟩)),(20,.I p5),(22,.pointer (some ⟨b2_,6,none⟩)),(23,.I p6)]) (fun _=>[.b b2_ (.cells (cfA p0 p1 p2 p3 p4 p5 p6) 23 (0,0))]) ?_ ?_
 rintro _
 refine a_w (F:=[(0,.agg (cfA p0 p1 p2 p3 p4 p5 p6)),(1,.P b2_),(2,.bool false),(4,.P b2_),(5,.I p0),(6,.I t18_),(7,.pointer (some ⟨b2_,1,none⟩)),(8,.I p1),(9,.I t20_),(10,.pointer (some ⟨b2_,2,none⟩)),(11,.I p2),(13,.pointer (some ⟨b2_,3,none⟩)),(14,.I p3),(16,.pointer (some ⟨b2_,4,none⟩)),(17,.I p4),(19,.pointer (some ⟨b2_,5,none⟩)),(20,.I p5),(22,.pointer (some ⟨b2_,6,none⟩)),(23,.I p6)]) (L:=[.b b2_ (.cells (cfA p0 p1 p2 p3 p4 p5 p6) 23 (0,0))]) ?_
 refine a_2 (i:=8) (j:=22) (by kernel_rfl) ?_ ?_
 refine i_e rfl rfl (eC [] #[.I p2,.I 1,.I 64] Tryz.func122 (by decide) rfl (fun w ht=>plan_to_con p2 1 64 t22_ e23_ w _)) ?_
 refine ⟨(mem_pick (idx:=[0]) rfl),?_⟩
 exact a_take (J2_5_8 ()) [0] (by kernel_rfl) rfl (subF_spec ⟨rfl,rfl,rfl,rfl,rfl,rfl,rfl,rfl,rfl,rfl,rfl,rfl,rfl,rfl,rfl,rfl,rfl,rfl,rfl,rfl,trivial⟩) rfl (by decide)
 refine i_e rfl rfl (e_alloc rfl rfl rfl ZR23) ?_
 intro bo22_1_
 refine ⟨(mem_pick (idx:=[1]) rfl),?_⟩
 exact a_take (J2_5_22 bo22_1_) [1,0] (by kernel_rfl) rfl (subF_spec ⟨rfl,rfl,rfl,rfl,rfl,rfl,rfl,rfl,rfl,rfl,rfl,rfl,rfl,rfl,rfl,rfl,rfl,rfl,rfl,rfl,trivial⟩) rfl (by decide)
 intro J2_5
 refine a_join (β:=Nat) 8 #[true,true,true,true,true,false,true,true,false,true,true,false,true,true,false,true,true,false,true,true,false,false,true,false] (fun bo22_1_=>[(0,.agg (cfA p0 p1 p2 p3 p4 p5 p6)),(1,.P b2_),(2,.bool false),(3,.P bo22_1_),(4,.P b2_),(5,.I p0),(6,.I t18_),(7,.pointer (some ⟨b2_,1,none⟩)),(8,.I p1),(10,.pointer (some ⟨b2_,2,none⟩)),(11,.I p2),(13,.pointer (some ⟨b2_,3,none⟩)),(14,.I p3),(16,.pointer (some ⟨b2_,4,none⟩)),(17,.I p4),(19,.pointer (some ⟨b2_,5,none⟩)),(20,.I p5),(22,.pointer (some ⟨b2_,6,none⟩)),(23,.I p6)]) (fun bo22_1_=>[.b b2_ (.cells (cfA p0 p1 p2 p3 p4 p5 p6) 23 (0,0)),.b bo22_1_ (.cells (cfA 0 0 0 0 0 0 0) 23 (0,0))]) ?_ ?_
 rintro bo22_1_
 refine a_w (F:=[(0,.agg (cfA p0 p1 p2 p3 p4 p5 p6)),(1,.P b2_),(2,.bool false),(3,.P bo22_1_),(4,.P b2_),(5,.I p0),(6,.I t18_),(7,.pointer (some ⟨b2_,1,none⟩)),(8,.I p1),(10,.pointer (some ⟨b2_,2,none⟩)),(11,.I p2),(13,.pointer (some ⟨b2_,3,none⟩)),(14,.I p3),(16,.pointer (some ⟨b2_,4,none⟩)),(17,.I p4),(19,.pointer (some ⟨b2_,5,none⟩)),(20,.I p5),(22,.pointer (some ⟨b2_,6,none⟩)),(23,.I p6)]) (L:=[.b b2_ (.cells (cfA p0 p1 p2 p3 p4 p5 p6) 23 (0,0)),.b bo22_1_ (.cells (cfA 0 0 0 0 0 0 0) 23 (0,0))]) ?_
 refine a_1 (i:=5) (by kernel_rfl) ?_
 refine i_e rfl rfl (eC [] #[.I p1,.I 1,.I 8] Tryz.func122 (by decide) rfl (fun w ht=>plan_to_con p1 1 8 t20_ e21_ w _)) ?_
 refine ⟨(mem_pick (idx:=[0]) rfl),?_⟩
 exact a_take (J2_5_22 bo22_1_) [0,1] (by kernel_rfl) rfl (subF_spec ⟨rfl,rfl,rfl,rfl,rfl,rfl,rfl,rfl,rfl,rfl,rfl,rfl,rfl,rfl,rfl,rfl,rfl,rfl,rfl,rfl,trivial⟩) rfl (by decide)
 intro J2_22
 refine a_join (β:=Unit) 9 #[true,true,true,true,true,false,true,true,false,true,true,false,true,true,false,true,true,false,true,true,false,false,false,false] (fun _=>[(0,.agg (cfA p0 p1 p2 p3 p4 p5 p6)),(1,.P b2_),(2,.bool false),(4,.P b2_),(5,.I p0),(6,.I t18_),(7,.pointer (some ⟨b2_,1,none⟩)),(8,.I p1),(10,.pointer (some ⟨b2_,2,none⟩)),(11,.I p2),(13,.pointer (some ⟨b2_,3,none⟩)),(14,.I p3),(16,.pointer (some ⟨b2_,4,none⟩)),(17,.I p4),(19,.pointer (some ⟨b2_,5,none⟩)),(20,.I p5),(22,.pointer (some ⟨b2_,6,none⟩)),(23,.I p6)]) (fun _=>[.b b2_ (.cells (cfA p0 p1 p2 p3 p4 p5 p6) 23 (0,0))]) ?_ ?_
 rintro _
 refine a_w (F:=[(0,.agg (cfA p0 p1 p2 p3 p4 p5 p6)),(1,.P b2_),(2,.bool false),(4,.P b2_),(5,.I p0),(6,.I t18_),(7,.pointer (some ⟨b2_,1,none⟩)),(8,.I p1),(10,.pointer (some ⟨b2_,2,none⟩)),(11,.I p2),(13,.pointer (some ⟨b2_,3,none⟩)),(14,.I p3),(16,.pointer (some ⟨b2_,4,none⟩)),(17,.I p4),(19,.pointer (some ⟨b2_,5,none⟩)),(20,.I p5),(22,.pointer (some ⟨b2_,6,none⟩)),(23,.I p6)]) (L:=[.b b2_ (.cells (cfA p0 p1 p2 p3 p4 p5 p6) 23 (0,0))]) ?_
 refine a_2 (i:=5) (j:=22) (by kernel_rfl) ?_ ?_
 refine i_e rfl rfl (eC [] #[.I p1,.I 1,.I 8] Tryz.func122 (by decide) rfl (fun w ht=>plan_to_con p1 1 8 t20_ e21_ w _)) ?_
 refine ⟨(mem_pick (idx:=[0]) rfl),?_⟩
 exact a_take (J2_5 ()) [0] (by kernel_rfl) rfl (subF_spec ⟨rfl,rfl,rfl,rfl,rfl,rfl,rfl,rfl,rfl,rfl,rfl,rfl,rfl,rfl,rfl,rfl,rfl,rfl,rfl,trivial⟩) rfl (by decide)
 refine i_e rfl rfl (e_alloc rfl rfl rfl ZR23) ?_
 intro bo22_1_
 refine ⟨(mem_pick (idx:=[1]) rfl),?_⟩
 exact a_take (J2_22 bo22_1_) [1,0] (by kernel_rfl) rfl (subF_spec ⟨rfl,rfl,rfl,rfl,rfl,rfl,rfl,rfl,rfl,rfl,rfl,rfl,rfl,rfl,rfl,rfl,rfl,rfl,rfl,trivial⟩) rfl (by decide)
 intro J2
 refine a_join (β:=Nat) 9 #[true,true,false,true,true,false,true,true,false,true,true,false,true,true,false,true,true,false,true,true,false,false,true,false] (fun bo22_1_=>[(0,.agg (cfA p0 p1 p2 p3 p4 p5 p6)),(1,.P b2_),(2,.bool false),(3,.P bo22_1_),(4,.P b2_),(5,.I p0),(7,.pointer (some ⟨b2_,1,none⟩)),(8,.I p1),(10,.pointer (some ⟨b2_,2,none⟩)),(11,.I p2),(13,.pointer (some ⟨b2_,3,none⟩)),(14,.I p3),(16,.pointer (some ⟨b2_,4,none⟩)),(17,.I p4),(19,.pointer (some ⟨b2_,5,none⟩)),(20,.I p5),(22,.pointer (some ⟨b2_,6,none⟩)),(23,.I p6)]) (fun bo22_1_=>[.b b2_ (.cells (cfA p0 p1 p2 p3 p4 p5 p6) 23 (0,0)),.b bo22_1_ (.cells (cfA 0 0 0 0 0 0 0) 23 (0,0))]) ?_ ?_
 rintro bo22_1_
 refine a_w (F:=[(0,.agg (cfA p0 p1 p2 p3 p4 p5 p6)),(1,.P b2_),(2,.bool false),(3,.P bo22_1_),(4,.P b2_),(5,.I p0),(7,.pointer (some ⟨b2_,1,none⟩)),(8,.I p1),(10,.pointer (some ⟨b2_,2,none⟩)),(11,.I p2),(13,.pointer (some ⟨b2_,3,none⟩)),(14,.I p3),(16,.pointer (some ⟨b2_,4,none⟩)),(17,.I p4),(19,.pointer (some ⟨b2_,5,none⟩)),(20,.I p5),(22,.pointer (some ⟨b2_,6,none⟩)),(23,.I p6)]) (L:=[.b b2_ (.cells (cfA p0 p1 p2 p3 p4 p5 p6) 23 (0,0)),.b bo22_1_ (.cells (cfA 0 0 0 0 0 0 0) 23 (0,0))]) ?_
 refine a_1 (i:=2) (by kernel_rfl) ?_
 refine i_e rfl rfl (eC [] #[.I p0,.I 1,.I 8] Tryz.func122 (by decide) rfl (fun w ht=>plan_to_con p0 1 8 t18_ e19_ w _)) ?_
 refine ⟨(mem_pick (idx:=[0]) rfl),?_⟩
 exact a_take (J2_22 bo22_1_) [0,1] (by kernel_rfl) rfl (subF_spec ⟨rfl,rfl,rfl,rfl,rfl,rfl,rfl,rfl,rfl,rfl,rfl,rfl,rfl,rfl,rfl,rfl,rfl,rfl,rfl,trivial⟩) rfl (by decide)
 intro J22
 refine aV 0 rfl (by kernel_rfl) (vF Tryz.underlying23 SZ3 rfl) ?_
 refine aV 1 rfl (by kernel_rfl) (vL 0 Tryz.underlying3 rfl) ?_
 refine aV 3 rfl (by kernel_rfl) (vF Tryz.underlying23 SZ3 rfl) ?_
 refine aV 4 rfl (by kernel_rfl) (vL 0 Tryz.underlying3 rfl) ?_
 refine aV 6 rfl (by kernel_rfl) (vF Tryz.underlying23 SZ3 rfl) ?_
 refine aV 7 rfl (by kernel_rfl) (vL 0 Tryz.underlying3 rfl) ?_
 refine aV 9 rfl (by kernel_rfl) (vF Tryz.underlying23 SZ3 rfl) ?_
 refine aV 10 rfl (by kernel_rfl) (vL 0 Tryz.underlying3 rfl) ?_
 refine aV 12 rfl (by kernel_rfl) (vF Tryz.underlying23 SZ3 rfl) ?_
 refine aV 13 rfl (by kernel_rfl) (vL 0 Tryz.underlying3 rfl) ?_
 refine aV 15 rfl (by kernel_rfl) (vF Tryz.underlying23 SZ3 rfl) ?_
 refine aV 16 rfl (by kernel_rfl) (vL 0 Tryz.underlying3 rfl) ?_
 refine aV 18 rfl (by kernel_rfl) (vF Tryz.underlying23 SZ3 rfl) ?_
 refine aV 19 rfl (by kernel_rfl) (vL 0 Tryz.underlying3 rfl) ?_
 refine a_2 (i:=2) (j:=22) (by kernel_rfl) ?_ ?_
 refine i_e rfl rfl (eC [] #[.I p0,.I 1,.I 8] Tryz.func122 (by decide) rfl (fun w ht=>plan_to_con p0 1 8 t18_ e19_ w _)) ?_
 refine ⟨(mem_pick (idx:=[0]) rfl),?_⟩
 exact a_take (J2 ()) [0] (by kernel_rfl) rfl (subF_spec ⟨rfl,rfl,rfl,rfl,rfl,rfl,rfl,rfl,rfl,rfl,rfl,rfl,rfl,rfl,rfl,rfl,rfl,rfl,trivial⟩) rfl (by decide)
 refine i_e rfl rfl (e_alloc rfl rfl rfl ZR23) ?_
 intro bo22_1_
 refine ⟨(mem_pick (idx:=[1]) rfl),?_⟩
 exact a_take (J22 bo22_1_) [1,0] (by kernel_rfl) rfl (subF_spec ⟨rfl,rfl,rfl,rfl,rfl,rfl,rfl,rfl,rfl,rfl,rfl,rfl,rfl,rfl,rfl,rfl,rfl,rfl,trivial⟩) rfl (by decide)
end Go.Eng
namespace Go.Eng
open Go.Proofs Go.RowKit Go.Proofs.YtgbcnokeaaabfaaGreatW.PrintWords
set_option linter.unusedVariables false
set_option linter.unusedSimpArgs false
def plan_within.f (a0:Int) (a1:Int) (a2:Int):Option Bool:=((if (a0:Int)≥a1 then some (decide ((a0:Int)≤a2)) else some false):Option Bool).bind fun j4_=>some j4_
set_option maxRecDepth 100000 in
set_option maxHeartbeats 4000000 in
theorem plan_within_con (a0:Int) (a1:Int) (a2:Int) (r0:Bool) (h:plan_within.f a0 a1 a2=some r0) (w0:World) (Hs:List Nat):Con Tryz.prog 86 #[.I a0,.I a1,.I a2] w0 Hs [] (fun X=>X (.bool r0) []):=by
 refine con_enter (c:=bodyOf Tryz.f86) Tryz.func86 rfl (m:=15) rfl rfl rfl ?_
 intro X hX _
 have H:=h
 unfold plan_within.f at H
 clear h
 refine c_seq rfl ?_
 refine r_ordb (l:=[0]) rfl (by kernel_rfl) ?_
 refine sA rfl ?_
 refine sQ ?_
 obtain ⟨j4_,e5_,H⟩:=bind_s H
 refine c_join (β:=Unit) (fun _=>True) (fun _=>[(6,.bool j4_)]) (fun _=>[]) rfl (fun _ _=>?_) (fun J_=>?_)
 refine c_ret rfl ?_
 have e_:=Option.some.inj H
 subst e_
 exact q_ret (vs:=[.bool j4_]) rfl (.tmp rfl .nil) [] rfl (by decide) (hX)
 clear H
 have H:=e5_
 clear e5_
 refine r_ordb (l:=[0,1,2,3,4,5,6,7,8]) rfl (by kernel_rfl) ?_
 refine sM rfl ?_
 refine sM rfl ?_
 refine sR rfl ?_
 refine sM rfl ?_
 rcases Bool.eq_false_or_eq_true (decide ((a0:Int)≥a1)) with h6_ | h6_
 replace H:=ite_y (dec_t h6_) H
 refine s_splitv (d:=10) (t:=decide ((a0:Int)≥a1)) rfl (fun _=>?_) (fun h7_=>absurd (h7_.symm.trans h6_) (by decide))
 refine sG rfl (vM rfl) ?_
 refine sG rfl (vM rfl) ?_
 refine sG rfl (vR rfl) ?_
 refine sP rfl ?_
 refine sA rfl ?_
 refine s_end ?_
 have hq_0:=Option.some.inj H
 subst hq_0
 exact q_seq (c_frame (subF_spec (by exact ⟨rfl,trivial⟩)) (c_take [] rfl (by decide) (J_ () trivial)))
 replace H:=ite_n (dec_f h6_) H
 refine s_splitv (d:=10) (t:=decide ((a0:Int)≥a1)) rfl (fun h8_=>absurd (h8_.symm.trans h6_) (by decide)) (fun _=>?_)
 refine sN rfl ?_
 refine sN rfl ?_
 refine sN rfl ?_
 refine sP rfl ?_
 refine sA rfl ?_
 refine s_end ?_
 have hq_0:=Option.some.inj H
 subst hq_0
 exact q_seq (c_frame (subF_spec (by exact ⟨rfl,trivial⟩)) (c_take [] rfl (by decide) (J_ () trivial)))
def plan_fields.f (p0:Int) (p1:Int) (p2:Int) (p3:Int) (p4:Int) (p5:Int) (p6:Int):Option Int:=some (IntKind.wrap .i64 (6+p3))
set_option maxRecDepth 100000 in
set_option maxHeartbeats 4000000 in
theorem plan_fields_con (p0:Int) (p1:Int) (p2:Int) (p3:Int) (p4:Int) (p5:Int) (p6:Int) (r0:Int) (h:plan_fields.f p0 p1 p2 p3 p4 p5 p6=some r0) (w0:World) (Hs:List Nat):Con Tryz.prog 87 #[.agg (cfA p0 p1 p2 p3 p4 p5 p6)] w0 Hs [] (fun X=>X (.I r0) []):=by
 refine con_enter (c:=bodyOf Tryz.f87) Tryz.func87 rfl (m:=6) rfl rfl rfl ?_
 intro X hX _
 have H:=h
 unfold plan_fields.f at H
 clear h
 refine c_seq rfl ?_
 refine r_ordb (l:=[0,1]) rfl (by kernel_rfl) ?_
 refine s_e rfl rfl (e_box rfl rfl rfl rfl) ?_
 intro b2_
 refine sA rfl ?_
 refine sE rfl ?_
 refine r_ordb (l:=[0,1,2,3]) rfl (by kernel_rfl) ?_
 refine sV rfl (vF Tryz.underlying23 SZ3 rfl) ?_
 refine sV rfl (vL 0 Tryz.underlying3 rfl) ?_
 refine sR rfl ?_
 refine sA rfl ?_
 refine sQ ?_
 refine c_ret rfl ?_
 have e_:=Option.some.inj H
 subst e_
 exact q_ret (vs:=[.I (IntKind.wrap .i64 (6+p3))]) rfl (.tmp rfl .nil) [] rfl (by decide) (hX)
def plan_first.f (p0:Int) (p1:Int) (p2:Int) (p3:Int) (p4:Int) (p5:Int) (p6:Int):Option Int:=some (IntKind.wrap .i64 (1+(IntKind.wrap .i64 (p0 * p1))))
set_option maxRecDepth 100000 in
set_option maxHeartbeats 4000000 in
theorem plan_first_con (p0:Int) (p1:Int) (p2:Int) (p3:Int) (p4:Int) (p5:Int) (p6:Int) (r0:Int) (h:plan_first.f p0 p1 p2 p3 p4 p5 p6=some r0) (w0:World) (Hs:List Nat):Con Tryz.prog 88 #[.agg (cfA p0 p1 p2 p3 p4 p5 p6)] w0 Hs [] (fun X=>X (.I r0) []):=by
 refine con_enter (c:=bodyOf Tryz.f88) Tryz.func88 rfl (m:=9) rfl rfl rfl ?_
 intro X hX _
 have H:=h
 unfold plan_first.f at H
 clear h
 refine c_seq rfl ?_
 refine r_ordb (l:=[0,1]) rfl (by kernel_rfl) ?_
 refine s_e rfl rfl (e_box rfl rfl rfl rfl) ?_
 intro b2_
 refine sA rfl ?_
 refine sE rfl ?_
 refine r_ordb (l:=[0,1,2,3,4,5,6]) rfl (by kernel_rfl) ?_
 refine sV rfl (vF Tryz.underlying23 SZ3 rfl) ?_
 refine sV rfl (vL 0 Tryz.underlying3 rfl) ?_
 refine sV rfl (vF Tryz.underlying23 SZ3 rfl) ?_
 refine sV rfl (vL 0 Tryz.underlying3 rfl) ?_
 refine sR rfl ?_
 refine sR rfl ?_
 refine sA rfl ?_
 refine sQ ?_
 refine c_ret rfl ?_
 have e_:=Option.some.inj H
 subst e_
 exact q_ret (vs:=[.I (IntKind.wrap .i64 (1+(IntKind.wrap .i64 (p0 * p1))))]) rfl (.tmp rfl .nil) [] rfl (by decide) (hX)
def plan_Cell.f (p0:Int) (p1:Int) (p2:Int) (p3:Int) (p4:Int) (p5:Int) (p6:Int) (a1:Int) (a2:Int):Option Int:=((plan_Right.f p0 p1 p2 p3 p4 p5 p6).bind fun t45_=>(if t45_=true then (plan_within.f a1 0 p2).bind fun t50_=>(if t50_=true then (plan_fields.f p0 p1 p2 p3 p4 p5 p6).bind fun t55_=>(plan_within.f a2 0 (IntKind.wrap .i64 (t55_ - 1))).bind fun t57_=>some (!t57_) else some true) else some true):Option Bool).bind fun j34_=>(if j34_=true then some (-1) else (plan_first.f p0 p1 p2 p3 p4 p5 p6).bind fun t41_=>(plan_fields.f p0 p1 p2 p3 p4 p5 p6).bind fun t43_=>some (IntKind.wrap .i64 ((IntKind.wrap .i64 (t41_+(IntKind.wrap .i64 (a1 * t43_))))+a2)))
set_option maxRecDepth 100000 in
set_option maxHeartbeats 4000000 in
theorem plan_Cell_con (p0:Int) (p1:Int) (p2:Int) (p3:Int) (p4:Int) (p5:Int) (p6:Int) (a1:Int) (a2:Int) (r0:Int) (h:plan_Cell.f p0 p1 p2 p3 p4 p5 p6 a1 a2=some r0) (w0:World) (Hs:List Nat):Con Tryz.prog 35 #[.agg (cfA p0 p1 p2 p3 p4 p5 p6),.I a1,.I a2] w0 Hs [] (fun X=>X (.I r0) []):=by
 refine con_enter (c:=bodyOf Tryz.f35) Tryz.func35 rfl (m:=34) rfl rfl rfl ?_
 intro X hX _
 have H:=h
 unfold plan_Cell.f at H
 clear h
 refine c_seq rfl ?_
 refine r_ordb (l:=[0,1]) rfl (by kernel_rfl) ?_
 refine s_e rfl rfl (e_box rfl rfl rfl rfl) ?_
 intro b2_
 refine sA rfl ?_
 refine sE rfl ?_
 obtain ⟨j34_,e35_,H⟩:=bind_s H
 refine c_join (β:=Unit) (fun _=>True) (fun _=>[(1,.I a1),(2,.I a2),(3,.P b2_),(6,.I 0),(24,.bool j34_)]) (fun _=>[.b b2_ (.cells (cfA p0 p1 p2 p3 p4 p5 p6) 23 (0,0))]) rfl (fun _ _=>?_) (fun J_=>?_)
 rcases Bool.eq_false_or_eq_true j34_ with h36_ | h36_
 subst h36_
 replace H:=ite_y rfl H
 refine c_cond1 rfl rfl ?_
 refine c_seq rfl ?_
 refine r_ordb (l:=[0]) rfl (by kernel_rfl) ?_
 refine sA rfl ?_
 refine sQ ?_
 refine c_ret rfl ?_
 refine q_then_ret ?_
 have e_:=Option.some.inj H
 subst e_
 exact q_ret (vs:=[.I (-1)]) rfl (.tmp rfl .nil) [] rfl (by decide) (hX)
 subst h36_
 replace H:=ite_n (by decide) H
 refine c_cond0 rfl rfl ?_
 refine kQ rfl ?_
 refine c_seq rfl ?_
 obtain ⟨t41_,e42_,H⟩:=bind_s H
 obtain ⟨t43_,e44_,H⟩:=bind_s H
 refine r_any [.b b2_ (.cells (cfA p0 p1 p2 p3 p4 p5 p6) 23 (0,0))] (by kernel_rfl) rfl (by kernel_rfl) (mem_pick (idx:=[0]) rfl) ?_
 refine aV 0 rfl (by kernel_rfl) (vLA (lfA p0 p1 p2 p3 p4 p5 p6) 0 Tryz.underlying23 SZ23 rfl) ?_
 refine aV 2 rfl (by kernel_rfl) (vM rfl) ?_
 refine aV 3 rfl (by kernel_rfl) (vLA (lfA p0 p1 p2 p3 p4 p5 p6) 0 Tryz.underlying23 SZ23 rfl) ?_
 refine aV 7 rfl (by kernel_rfl) (vM rfl) ?_
 refine a_1 (i:=1) (by kernel_rfl) ?_
 refine i_e rfl rfl (eC [] #[.agg (cfA p0 p1 p2 p3 p4 p5 p6)] Tryz.func88 (by decide) rfl (fun w ht=>plan_first_con p0 p1 p2 p3 p4 p5 p6 t41_ e42_ w _)) ?_
 refine ⟨(mem_pick (idx:=[0]) rfl),?_⟩
 refine a_1 (i:=4) (by kernel_rfl) ?_
 refine i_e rfl rfl (eC [] #[.agg (cfA p0 p1 p2 p3 p4 p5 p6)] Tryz.func87 (by decide) rfl (fun w ht=>plan_fields_con p0 p1 p2 p3 p4 p5 p6 t43_ e44_ w _)) ?_
 refine ⟨(mem_pick (idx:=[0]) rfl),?_⟩
 refine aV 5 rfl (by kernel_rfl) (vR rfl) ?_
 refine aV 6 rfl (by kernel_rfl) (vR rfl) ?_
 refine aV 8 rfl (by kernel_rfl) (vR rfl) ?_
 refine aV 9 rfl (by kernel_rfl) (vA rfl) ?_
 refine a_end (by kernel_rfl) ?_
 refine q_seq ?_
 refine c_ret rfl ?_
 have e_:=Option.some.inj H
 subst e_
 exact q_ret (vs:=[.I (IntKind.wrap .i64 ((IntKind.wrap .i64 (t41_+(IntKind.wrap .i64 (a1 * t43_))))+a2))]) rfl (.tmp rfl .nil) [] rfl (by decide) (hX)
 clear H
 have H:=e35_
 clear e35_
 refine r_ordb (l:=[0,1,2,3,4,5,6,7,8,9,10,11,12,13,14,15,16,17]) rfl (by kernel_rfl) ?_
 refine sV rfl (vLA (lfA p0 p1 p2 p3 p4 p5 p6) 0 Tryz.underlying23 SZ23 rfl) ?_
 obtain ⟨t45_,e46_,H⟩:=bind_s H
 refine s_e rfl rfl (eC [] #[.agg (cfA p0 p1 p2 p3 p4 p5 p6)] Tryz.func85 (by decide) rfl (fun w ht=>plan_Right_con p0 p1 p2 p3 p4 p5 p6 t45_ e46_ w _)) ?_
 refine sV rfl (v_not rfl rfl) ?_
 refine sM rfl ?_
 rcases Bool.eq_false_or_eq_true (!t45_) with h47_ | h47_
 replace H:=ite_n (not_t (bnot_t h47_)) H
 refine s_splitv (d:=10) (t:=!t45_) rfl (fun _=>?_) (fun h48_=>absurd (h48_.symm.trans h47_) (by decide))
 refine sN rfl ?_
 refine sN rfl ?_
 refine sN rfl ?_
 refine sN rfl ?_
 refine sN rfl ?_
 refine sP rfl ?_
 refine sM rfl ?_
 refine sN rfl ?_
 refine sN rfl ?_
 refine sN rfl ?_
 refine sN rfl ?_
 refine sN rfl ?_
 refine sN rfl ?_
 refine sP rfl ?_
 refine s_end ?_
 have hq_0:=Option.some.inj H
 subst hq_0
 exact q_seq (c_frame (subF_spec (by exact ⟨rfl,rfl,rfl,rfl,rfl,trivial⟩)) (c_take [0] rfl (by decide) (J_ () trivial)))
 replace H:=ite_y (bnot_f h47_) H
 refine s_splitv (d:=10) (t:=!t45_) rfl (fun h49_=>absurd (h49_.symm.trans h47_) (by decide)) (fun _=>?_)
 refine sG rfl (vM rfl) ?_
 refine sG rfl (vF Tryz.underlying23 SZ3 rfl) ?_
 refine sG rfl (vL 0 Tryz.underlying3 rfl) ?_
 obtain ⟨t50_,e51_,H⟩:=bind_s H
 refine s_eg rfl rfl (eC [] #[.I a1,.I 0,.I p2] Tryz.func86 (by decide) rfl (fun w ht=>plan_within_con a1 0 p2 t50_ e51_ w _)) ?_
 refine sG rfl (v_not rfl rfl) ?_
 refine sP rfl ?_
 refine sM rfl ?_
 rcases Bool.eq_false_or_eq_true (!t50_) with h52_ | h52_
 replace H:=ite_n (not_t (bnot_t h52_)) H
 refine s_splitv (d:=17) (t:=!t50_) rfl (fun _=>?_) (fun h53_=>absurd (h53_.symm.trans h52_) (by decide))
 refine sN rfl ?_
 refine sN rfl ?_
 refine sN rfl ?_
 refine sN rfl ?_
 refine sN rfl ?_
 refine sN rfl ?_
 refine sP rfl ?_
 refine s_end ?_
 have hq_0:=Option.some.inj H
 subst hq_0
 exact q_seq (c_frame (subF_spec (by exact ⟨rfl,rfl,rfl,rfl,rfl,trivial⟩)) (c_take [0] rfl (by decide) (J_ () trivial)))
 replace H:=ite_y (bnot_f h52_) H
 refine s_splitv (d:=17) (t:=!t50_) rfl (fun h54_=>absurd (h54_.symm.trans h52_) (by decide)) (fun _=>?_)
 refine sG rfl (vM rfl) ?_
 refine sG rfl (vLA (lfA p0 p1 p2 p3 p4 p5 p6) 0 Tryz.underlying23 SZ23 rfl) ?_
 obtain ⟨t55_,e56_,H⟩:=bind_s H
 refine s_eg rfl rfl (eC [] #[.agg (cfA p0 p1 p2 p3 p4 p5 p6)] Tryz.func87 (by decide) rfl (fun w ht=>plan_fields_con p0 p1 p2 p3 p4 p5 p6 t55_ e56_ w _)) ?_
 refine sG rfl (vR rfl) ?_
 obtain ⟨t57_,e58_,H⟩:=bind_s H
 refine s_eg rfl rfl (eC [] #[.I a2,.I 0,.I (IntKind.wrap .i64 (t55_ - 1))] Tryz.func86 (by decide) rfl (fun w ht=>plan_within_con a2 0 (IntKind.wrap .i64 (t55_ - 1)) t57_ e58_ w _)) ?_
 refine sG rfl (v_not rfl rfl) ?_
 refine sP rfl ?_
 refine s_end ?_
 have hq_0:=Option.some.inj H
 subst hq_0
 exact q_seq (c_frame (subF_spec (by exact ⟨rfl,rfl,rfl,rfl,rfl,trivial⟩)) (c_take [0] rfl (by decide) (J_ () trivial)))
def sw_at.f (p0:Int) (p1:Int) (p2:Int) (p3:Int) (p4:Int) (p5:Int) (p6:Int) (l0_7:List Int) (a1:Int) (a2:Int):Option Int:=(plan_Cell.f p0 p1 p2 p3 p4 p5 p6 a1 a2).bind fun t7_=>(if 0≤(t7_:Int) then (if (t7_:Int)<(l0_7.length:Int) then some (rd l0_7 t7_) else none) else none)
set_option maxRecDepth 100000 in
set_option maxHeartbeats 4000000 in
theorem sw_at_con (p0:Int) (p1:Int) (p2:Int) (p3:Int) (p4:Int) (p5:Int) (p6:Int) (A0_7:Option Addr) (c0_7:Nat) (l0_7:List Int) (a1:Int) (a2:Int) (r0:Int) (h:sw_at.f p0 p1 p2 p3 p4 p5 p6 l0_7 a1 a2=some r0) (w0:World) (Hs:List Nat):Con Tryz.prog 78 #[.agg (cfB p0 p1 p2 p3 p4 p5 p6 A0_7 l0_7.length c0_7),.I a1,.I a2] w0 Hs [.f (KU A0_7 c0_7 l0_7)] (fun X=>X (.U r0) []):=by
 refine con_enter (c:=bodyOf Tryz.f78) Tryz.func78 rfl (m:=16) rfl rfl rfl ?_
 intro X hX _
 have H:=h
 unfold sw_at.f at H
 clear h
 refine c_seq rfl ?_
 refine r_ordb (l:=[0,1]) rfl (by kernel_rfl) ?_
 refine s_e rfl rfl (e_box rfl rfl rfl rfl) ?_
 intro b2_
 refine sA rfl ?_
 refine sE rfl ?_
 obtain ⟨t7_,e8_,H⟩:=bind_s H
 obtain ⟨n9_,H⟩:=ite_no H
 obtain ⟨n10_,H⟩:=ite_no H
 refine r_any [.b b2_ (.cells (cfB p0 p1 p2 p3 p4 p5 p6 A0_7 l0_7.length c0_7) 104 (0,0)),.f (KU A0_7 c0_7 l0_7)] (by kernel_rfl) rfl (by kernel_rfl) (mem_pick (idx:=[0,1]) rfl) ?_
 refine aV 0 rfl (by kernel_rfl) (vF Tryz.underlying104 SZ24 rfl) ?_
 refine aV 1 rfl (by kernel_rfl) (vL 0 Tryz.underlying24 rfl) ?_
 refine aV 2 rfl (by kernel_rfl) (vF Tryz.underlying104 SZ23 rfl) ?_
 refine aV 3 rfl (by kernel_rfl) (vLA (lfA p0 p1 p2 p3 p4 p5 p6) 0 Tryz.underlying23 SZ23 rfl) ?_
 refine aV 4 rfl (by kernel_rfl) (vM rfl) ?_
 refine aV 5 rfl (by kernel_rfl) (vM rfl) ?_
 refine a_1 (i:=6) (by kernel_rfl) ?_
 refine i_e rfl rfl (eC [] #[.agg (cfA p0 p1 p2 p3 p4 p5 p6),.I a1,.I a2] Tryz.func35 (by decide) rfl (fun w ht=>plan_Cell_con p0 p1 p2 p3 p4 p5 p6 a1 a2 t7_ e8_ w _)) ?_
 refine ⟨(mem_pick (idx:=[0,1]) rfl),?_⟩
 refine aV 7 rfl (by kernel_rfl) (v_iaK (i:=1) rfl Tryz.underlying24 SZ41 rfl rfl rfl rfl n9_ n10_) ?_
 refine aV 8 rfl (by kernel_rfl) (v_ldK (v := .U (rd l0_7 t7_)) 0 1 rfl Tryz.underlying41 rfl rfl rfl rfl n9_ n10_ (fun w K h=>h)) ?_
 refine aV 9 rfl (by kernel_rfl) (vA rfl) ?_
 refine a_end (by kernel_rfl) ?_
 refine q_seq ?_
 refine c_ret rfl ?_
 have e_:=Option.some.inj H
 subst e_
 exact q_ret (vs:=[.U (rd l0_7 t7_)]) rfl (.tmp rfl .nil) [] rfl (by decide) (hX)
def plan_Len.f (p0:Int) (p1:Int) (p2:Int) (p3:Int) (p4:Int) (p5:Int) (p6:Int):Option Int:=(plan_Right.f p0 p1 p2 p3 p4 p5 p6).bind fun t10_=>(if t10_=true then (plan_first.f p0 p1 p2 p3 p4 p5 p6).bind fun t19_=>(plan_fields.f p0 p1 p2 p3 p4 p5 p6).bind fun t21_=>some (IntKind.wrap .i64 (t19_+(IntKind.wrap .i64 ((IntKind.wrap .i64 (p2+1)) * t21_)))) else some 0)
set_option maxRecDepth 100000 in
set_option maxHeartbeats 4000000 in
theorem plan_Len_con (p0:Int) (p1:Int) (p2:Int) (p3:Int) (p4:Int) (p5:Int) (p6:Int) (r0:Int) (h:plan_Len.f p0 p1 p2 p3 p4 p5 p6=some r0) (w0:World) (Hs:List Nat):Con Tryz.prog 97 #[.agg (cfA p0 p1 p2 p3 p4 p5 p6)] w0 Hs [] (fun X=>X (.I r0) []):=by
 refine con_enter (c:=bodyOf Tryz.f97) Tryz.func97 rfl (m:=15) rfl rfl rfl ?_
 intro X hX _
 have H:=h
 unfold plan_Len.f at H
 clear h
 refine c_seq rfl ?_
 refine r_ordb (l:=[0,1]) rfl (by kernel_rfl) ?_
 refine s_e rfl rfl (e_box rfl rfl rfl rfl) ?_
 intro b2_
 refine sA rfl ?_
 refine sE rfl ?_
 refine c_seq rfl ?_
 refine r_ordb (l:=[0,1,2]) rfl (by kernel_rfl) ?_
 refine sV rfl (vLA (lfA p0 p1 p2 p3 p4 p5 p6) 0 Tryz.underlying23 SZ23 rfl) ?_
 obtain ⟨t10_,e11_,H⟩:=bind_s H
 refine s_e rfl rfl (eC [] #[.agg (cfA p0 p1 p2 p3 p4 p5 p6)] Tryz.func85 (by decide) rfl (fun w ht=>plan_Right_con p0 p1 p2 p3 p4 p5 p6 t10_ e11_ w _)) ?_
 refine sV rfl (v_not rfl rfl) ?_
 refine sQ ?_
 rcases Bool.eq_false_or_eq_true (!t10_) with h12_ | h12_
 replace H:=ite_n (not_t (bnot_t h12_)) H
 refine cT h12_ rfl ?_
 refine c_seq rfl ?_
 refine r_ordb (l:=[0]) rfl (by kernel_rfl) ?_
 refine sA rfl ?_
 refine sQ ?_
 refine c_ret rfl ?_
 refine q_then_ret ?_
 have e_:=Option.some.inj H
 subst e_
 exact q_ret (vs:=[.I 0]) rfl (.tmp rfl .nil) [] rfl (by decide) (hX)
 replace H:=ite_y (bnot_f h12_) H
 refine cF h12_ rfl ?_
 refine kQ rfl ?_
 refine c_seq rfl ?_
 obtain ⟨t19_,e20_,H⟩:=bind_s H
 obtain ⟨t21_,e22_,H⟩:=bind_s H
 refine r_any [.b b2_ (.cells (cfA p0 p1 p2 p3 p4 p5 p6) 23 (0,0))] (by kernel_rfl) rfl (by kernel_rfl) (mem_pick (idx:=[0]) rfl) ?_
 refine aV 0 rfl (by kernel_rfl) (vLA (lfA p0 p1 p2 p3 p4 p5 p6) 0 Tryz.underlying23 SZ23 rfl) ?_
 refine aV 2 rfl (by kernel_rfl) (vF Tryz.underlying23 SZ3 rfl) ?_
 refine aV 3 rfl (by kernel_rfl) (vL 0 Tryz.underlying3 rfl) ?_
 refine aV 4 rfl (by kernel_rfl) (vR rfl) ?_
 refine aV 5 rfl (by kernel_rfl) (vLA (lfA p0 p1 p2 p3 p4 p5 p6) 0 Tryz.underlying23 SZ23 rfl) ?_
 refine a_1 (i:=1) (by kernel_rfl) ?_
 refine i_e rfl rfl (eC [] #[.agg (cfA p0 p1 p2 p3 p4 p5 p6)] Tryz.func88 (by decide) rfl (fun w ht=>plan_first_con p0 p1 p2 p3 p4 p5 p6 t19_ e20_ w _)) ?_
 refine ⟨(mem_pick (idx:=[0]) rfl),?_⟩
 refine a_1 (i:=6) (by kernel_rfl) ?_
 refine i_e rfl rfl (eC [] #[.agg (cfA p0 p1 p2 p3 p4 p5 p6)] Tryz.func87 (by decide) rfl (fun w ht=>plan_fields_con p0 p1 p2 p3 p4 p5 p6 t21_ e22_ w _)) ?_
 refine ⟨(mem_pick (idx:=[0]) rfl),?_⟩
 refine aV 7 rfl (by kernel_rfl) (vR rfl) ?_
 refine aV 8 rfl (by kernel_rfl) (vR rfl) ?_
 refine aV 9 rfl (by kernel_rfl) (vA rfl) ?_
 refine a_end (by kernel_rfl) ?_
 refine q_seq ?_
 refine c_ret rfl ?_
 have e_:=Option.some.inj H
 subst e_
 exact q_ret (vs:=[.I (IntKind.wrap .i64 (t19_+(IntKind.wrap .i64 ((IntKind.wrap .i64 (p2+1)) * t21_))))]) rfl (.tmp rfl .nil) [] rfl (by decide) (hX)
def sw_whole.f (p0:Int) (p1:Int) (p2:Int) (p3:Int) (p4:Int) (p5:Int) (p6:Int) (l0_7:List Int):Option Bool:=((plan_Right.f p0 p1 p2 p3 p4 p5 p6).bind fun t10_=>(if t10_=true then (plan_Len.f p0 p1 p2 p3 p4 p5 p6).bind fun t13_=>some (((l0_7.length:Int):Int) == t13_) else some false):Option Bool).bind fun j8_=>some j8_
set_option maxRecDepth 100000 in
set_option maxHeartbeats 4000000 in
theorem sw_whole_con (p0:Int) (p1:Int) (p2:Int) (p3:Int) (p4:Int) (p5:Int) (p6:Int) (A0_7:Option Addr) (c0_7:Nat) (l0_7:List Int) (r0:Bool) (h:sw_whole.f p0 p1 p2 p3 p4 p5 p6 l0_7=some r0) (w0:World) (Hs:List Nat):Con Tryz.prog 59 #[.agg (cfB p0 p1 p2 p3 p4 p5 p6 A0_7 l0_7.length c0_7)] w0 Hs [.f (KU A0_7 c0_7 l0_7)] (fun X=>X (.bool r0) []):=by
 refine con_enter (c:=bodyOf Tryz.f59) Tryz.func59 rfl (m:=15) rfl rfl rfl ?_
 intro X hX _
 have H:=h
 unfold sw_whole.f at H
 clear h
 refine c_seq rfl ?_
 refine r_ordb (l:=[0,1]) rfl (by kernel_rfl) ?_
 refine s_e rfl rfl (e_box rfl rfl rfl rfl) ?_
 intro b2_
 refine sA rfl ?_
 refine sQ ?_
 obtain ⟨j8_,e9_,H⟩:=bind_s H
 refine c_join (β:=Unit) (fun _=>True) (fun _=>[(2,.bool j8_)]) (fun _=>[.b b2_ (.cells (cfB p0 p1 p2 p3 p4 p5 p6 A0_7 l0_7.length c0_7) 104 (0,0)),.f (KU A0_7 c0_7 l0_7)]) rfl (fun _ _=>?_) (fun J_=>?_)
 refine c_ret rfl ?_
 have e_:=Option.some.inj H
 subst e_
 exact q_ret (vs:=[.bool j8_]) rfl (.tmp rfl .nil) [] rfl (by decide) (hX)
 clear H
 have H:=e9_
 clear e9_
 obtain ⟨t10_,e11_,H⟩:=bind_s H
 rcases Bool.eq_false_or_eq_true t10_ with h12_ | h12_
 subst h12_
 replace H:=ite_y rfl H
 obtain ⟨t13_,e14_,H⟩:=bind_s H
 refine r_any [.b b2_ (.cells (cfB p0 p1 p2 p3 p4 p5 p6 A0_7 l0_7.length c0_7) 104 (0,0)),.f (KU A0_7 c0_7 l0_7)] (by kernel_rfl) rfl (by kernel_rfl) (mem_pick (idx:=[0,1]) rfl) ?_
 refine aV 0 rfl (by kernel_rfl) (vF Tryz.underlying104 SZ23 rfl) ?_
 refine aV 1 rfl (by kernel_rfl) (vLA (lfA p0 p1 p2 p3 p4 p5 p6) 0 Tryz.underlying23 SZ23 rfl) ?_
 refine a_1 (i:=2) (by kernel_rfl) ?_
 refine i_e rfl rfl (eC [] #[.agg (cfA p0 p1 p2 p3 p4 p5 p6)] Tryz.func85 (by decide) rfl (fun w ht=>plan_Right_con p0 p1 p2 p3 p4 p5 p6 true e11_ w _)) ?_
 refine ⟨(mem_pick (idx:=[0,1]) rfl),?_⟩
 refine aV 3 rfl (by kernel_rfl) (vM rfl) ?_
 refine aV 4 rfl (by kernel_rfl) (vF Tryz.underlying104 SZ24 rfl) ?_
 refine aV 5 rfl (by kernel_rfl) (vL 0 Tryz.underlying24 rfl) ?_
 refine aV 6 rfl (by kernel_rfl) (v_len rfl rfl rfl Tryz.underlying24 rfl rfl) ?_
 refine aV 7 rfl (by kernel_rfl) (vF Tryz.underlying104 SZ23 rfl) ?_
 refine aV 8 rfl (by kernel_rfl) (vLA (lfA p0 p1 p2 p3 p4 p5 p6) 0 Tryz.underlying23 SZ23 rfl) ?_
 refine a_1 (i:=9) (by kernel_rfl) ?_
 refine i_e rfl rfl (eC [] #[.agg (cfA p0 p1 p2 p3 p4 p5 p6)] Tryz.func97 (by decide) rfl (fun w ht=>plan_Len_con p0 p1 p2 p3 p4 p5 p6 t13_ e14_ w _)) ?_
 refine ⟨(mem_pick (idx:=[0,1]) rfl),?_⟩
 refine aV 10 rfl (by kernel_rfl) (vR rfl) ?_
 refine aV 11 rfl (by kernel_rfl) (vP rfl) ?_
 refine aV 12 rfl (by kernel_rfl) (vA rfl) ?_
 refine a_end (by kernel_rfl) ?_
 have hq_0:=Option.some.inj H
 subst hq_0
 exact q_seq (c_frame (subF_spec (by exact ⟨rfl,trivial⟩)) (c_take [0,1] rfl (by decide) (J_ () trivial)))
 subst h12_
 replace H:=ite_n (by decide) H
 refine r_any [.b b2_ (.cells (cfB p0 p1 p2 p3 p4 p5 p6 A0_7 l0_7.length c0_7) 104 (0,0)),.f (KU A0_7 c0_7 l0_7)] (by kernel_rfl) rfl (by kernel_rfl) (mem_pick (idx:=[0,1]) rfl) ?_
 refine aV 0 rfl (by kernel_rfl) (vF Tryz.underlying104 SZ23 rfl) ?_
 refine aV 1 rfl (by kernel_rfl) (vLA (lfA p0 p1 p2 p3 p4 p5 p6) 0 Tryz.underlying23 SZ23 rfl) ?_
 refine a_1 (i:=2) (by kernel_rfl) ?_
 refine i_e rfl rfl (eC [] #[.agg (cfA p0 p1 p2 p3 p4 p5 p6)] Tryz.func85 (by decide) rfl (fun w ht=>plan_Right_con p0 p1 p2 p3 p4 p5 p6 false e11_ w _)) ?_
 refine ⟨(mem_pick (idx:=[0,1]) rfl),?_⟩
 refine aV 3 rfl (by kernel_rfl) (vM rfl) ?_
 refine aN 4 rfl (by kernel_rfl) ?_
 refine aN 5 rfl (by kernel_rfl) ?_
 refine aN 6 rfl (by kernel_rfl) ?_
 refine aN 7 rfl (by kernel_rfl) ?_
 refine aN 8 rfl (by kernel_rfl) ?_
 refine aN 9 rfl (by kernel_rfl) ?_
 refine aN 10 rfl (by kernel_rfl) ?_
 refine aV 11 rfl (by kernel_rfl) (vP rfl) ?_
 refine aV 12 rfl (by kernel_rfl) (vA rfl) ?_
 refine a_end (by kernel_rfl) ?_
 have hq_0:=Option.some.inj H
 subst hq_0
 exact q_seq (c_frame (subF_spec (by exact ⟨rfl,trivial⟩)) (c_take [0,1] rfl (by decide) (J_ () trivial)))
def slot_word_right.f (p0:Int) (p1:Int):Option Bool:=some (((p0:Int) == (if (0:Int)<(if (2:Int)<p0 then 2 else p0) then (if (2:Int)<p0 then 2 else p0) else 0)) && (((p1:Int) == (if (0:Int)<(if (1073741823:Int)<p1 then 1073741823 else p1) then (if (1073741823:Int)<p1 then 1073741823 else p1) else 0))))
set_option maxRecDepth 100000 in
set_option maxHeartbeats 4000000 in
theorem slot_word_right_con (p0:Int) (p1:Int) (r0:Bool) (h:slot_word_right.f p0 p1=some r0) (w0:World) (Hs:List Nat):Con Tryz.prog 121 #[.agg #[.I p0,.I p1]] w0 Hs [] (fun X=>X (.bool r0) []):=by
 refine con_enter (c:=bodyOf Tryz.f121) Tryz.func121 rfl (m:=16) rfl rfl rfl ?_
 intro X hX _
 have H:=h
 unfold slot_word_right.f at H
 clear h
 refine c_seq rfl ?_
 refine r_ordb (l:=[0,1]) rfl (by kernel_rfl) ?_
 refine s_e rfl rfl (e_box rfl rfl rfl rfl) ?_
 intro b2_
 refine sA rfl ?_
 refine sE rfl ?_
 refine r_ordb (l:=[0,1,2,3,4,5,6,7,8,9,10]) rfl (by kernel_rfl) ?_
 refine sV rfl (vF Tryz.underlying174 SZ3 rfl) ?_
 refine sV rfl (vL 0 Tryz.underlying3 rfl) ?_
 refine sV rfl (v_min (x := .tmp 0) (y := .tmp 0) rfl rfl rfl) ?_
 refine sV rfl (v_max (x := .tmp 0) (y := .tmp 0) rfl rfl rfl) ?_
 refine sV rfl (vF Tryz.underlying174 SZ3 rfl) ?_
 refine sV rfl (vL 0 Tryz.underlying3 rfl) ?_
 refine sV rfl (v_min (x := .tmp 0) (y := .tmp 0) rfl rfl rfl) ?_
 refine sV rfl (v_max (x := .tmp 0) (y := .tmp 0) rfl rfl rfl) ?_
 refine sV rfl (v_build (places:=#[(0,1),(1,1)]) #[.I (if (0:Int)<(if (2:Int)<p0 then 2 else p0) then (if (2:Int)<p0 then 2 else p0) else 0),.I (if (0:Int)<(if (1073741823:Int)<p1 then 1073741823 else p1) then (if (1073741823:Int)<p1 then 1073741823 else p1) else 0)] rfl ZR174 Tryz.underlying174 (by kernel_rfl) rfl (by kernel_rfl)) ?_
 refine s_e rfl rfl (e_alloc rfl rfl rfl ZR174) ?_
 intro b4_
 refine s_e rfl rfl (e_stA 0 rfl rfl SZ174 rfl rfl rfl rfl rfl rfl) ?_
 refine sE rfl ?_
 refine r_ordb (l:=[0,1,2,3]) rfl (by kernel_rfl) ?_
 refine sV rfl (vLA [.I p0,.I p1] 1 Tryz.underlying174 SZ174 rfl) ?_
 refine sV rfl (vLA [.I (if (0:Int)<(if (2:Int)<p0 then 2 else p0) then (if (2:Int)<p0 then 2 else p0) else 0),.I (if (0:Int)<(if (1073741823:Int)<p1 then 1073741823 else p1) then (if (1073741823:Int)<p1 then 1073741823 else p1) else 0)] 0 Tryz.underlying174 SZ174 rfl) ?_
 refine sV rfl (v_eqA rfl rfl rfl (by kernel_rfl) (eqS174 p0 p1 (if (0:Int)<(if (2:Int)<p0 then 2 else p0) then (if (2:Int)<p0 then 2 else p0) else 0) (if (0:Int)<(if (1073741823:Int)<p1 then 1073741823 else p1) then (if (1073741823:Int)<p1 then 1073741823 else p1) else 0))) ?_
 refine sA rfl ?_
 refine sQ ?_
 refine c_ret rfl ?_
 have e_:=Option.some.inj H
 subst e_
 exact q_ret (vs:=[.bool (((p0:Int) == (if (0:Int)<(if (2:Int)<p0 then 2 else p0) then (if (2:Int)<p0 then 2 else p0) else 0)) && (((p1:Int) == (if (0:Int)<(if (1073741823:Int)<p1 then 1073741823 else p1) then (if (1073741823:Int)<p1 then 1073741823 else p1) else 0))))]) rfl (.tmp rfl .nil) [] rfl (by decide) (hX)
def slot_word_packed.f (p0:Int) (p1:Int):Option Int:=some (IntKind.wrap .u64 (BitVec.ofInt (IntKind.bits .u64) (IntKind.wrap .u64 ((IntKind.wrap .u64 p1) * 2 ^ (min (Int.toNat 2) (IntKind.bits .u64)))) ||| BitVec.ofInt (IntKind.bits .u64) (IntKind.wrap .u64 p0)).toNat)
set_option maxRecDepth 100000 in
set_option maxHeartbeats 4000000 in
theorem slot_word_packed_con (p0:Int) (p1:Int) (r0:Int) (h:slot_word_packed.f p0 p1=some r0) (w0:World) (Hs:List Nat):Con Tryz.prog 117 #[.agg #[.I p0,.I p1]] w0 Hs [] (fun X=>X (.U r0) []):=by
 refine con_enter (c:=bodyOf Tryz.f117) Tryz.func117 rfl (m:=11) rfl rfl rfl ?_
 intro X hX _
 have H:=h
 unfold slot_word_packed.f at H
 clear h
 refine c_seq rfl ?_
 refine r_ordb (l:=[0,1]) rfl (by kernel_rfl) ?_
 refine s_e rfl rfl (e_box rfl rfl rfl rfl) ?_
 intro b2_
 refine sA rfl ?_
 refine sE rfl ?_
 refine r_ordb (l:=[0,1,2,3,4,5,6,7,8]) rfl (by kernel_rfl) ?_
 refine sV rfl (vF Tryz.underlying174 SZ3 rfl) ?_
 refine sV rfl (vL 0 Tryz.underlying3 rfl) ?_
 refine sV rfl (v_conv rfl Tryz.underlying3 Tryz.underlying41 rfl) ?_
 refine sV rfl (v_shl rfl rfl rfl (by omega)) ?_
 refine sV rfl (vF Tryz.underlying174 SZ3 rfl) ?_
 refine sV rfl (vL 0 Tryz.underlying3 rfl) ?_
 refine sV rfl (v_conv rfl Tryz.underlying3 Tryz.underlying41 rfl) ?_
 refine sV rfl (v_bits rfl rfl rfl rfl) ?_
 refine sA rfl ?_
 refine sQ ?_
 refine c_ret rfl ?_
 have e_:=Option.some.inj H
 subst e_
 exact q_ret (vs:=[.U (IntKind.wrap .u64 (BitVec.ofInt (IntKind.bits .u64) (IntKind.wrap .u64 ((IntKind.wrap .u64 p1) * 2 ^ (min (Int.toNat 2) (IntKind.bits .u64)))) ||| BitVec.ofInt (IntKind.bits .u64) (IntKind.wrap .u64 p0)).toNat)]) rfl (.tmp rfl .nil) [] rfl (by decide) (hX)
def slot_Meta.f (a0:Int) (a1:Int):Option (Int × Bool):=(slot_word_right.f a0 a1).bind fun t10_=>(if t10_=true then (slot_word_packed.f a0 a1).bind fun t17_=>some (t17_,true) else some (0,false))
set_option maxRecDepth 100000 in
set_option maxHeartbeats 4000000 in
theorem slot_Meta_con (a0:Int) (a1:Int) (r0:Int) (r1:Bool) (h:slot_Meta.f a0 a1=some (r0,r1)) (w0:World) (Hs:List Nat):Con Tryz.prog 84 #[.I a0,.I a1] w0 Hs [] (fun X=>X (.tuple #[.U r0,.bool r1]) []):=by
 refine con_enter (c:=bodyOf Tryz.f84) Tryz.func84 rfl (m:=15) rfl rfl rfl ?_
 intro X hX _
 have H:=h
 unfold slot_Meta.f at H
 clear h
 refine c_seq rfl ?_
 refine r_ordb (l:=[0,1]) rfl (by kernel_rfl) ?_
 refine sA rfl ?_
 refine sA rfl ?_
 refine sE rfl ?_
 refine r_ordb (l:=[0,1,2,3,4]) rfl (by kernel_rfl) ?_
 refine sM rfl ?_
 refine sM rfl ?_
 refine sV rfl (v_build (places:=#[(0,1),(1,1)]) #[.I a0,.I a1] rfl ZR174 Tryz.underlying174 (by kernel_rfl) rfl (by kernel_rfl)) ?_
 refine s_e rfl rfl (e_alloc rfl rfl rfl ZR174) ?_
 intro b2_
 refine s_e rfl rfl (e_stA 0 rfl rfl SZ174 rfl rfl rfl rfl rfl rfl) ?_
 refine sE rfl ?_
 refine c_seq rfl ?_
 refine r_ordb (l:=[0,1,2]) rfl (by kernel_rfl) ?_
 refine sV rfl (vLA [.I a0,.I a1] 0 Tryz.underlying174 SZ174 rfl) ?_
 obtain ⟨t10_,e11_,H⟩:=bind_s H
 refine s_e rfl rfl (eC [] #[.agg #[.I a0,.I a1]] Tryz.func121 (by decide) rfl (fun w ht=>slot_word_right_con a0 a1 t10_ e11_ w _)) ?_
 refine sV rfl (v_not rfl rfl) ?_
 refine sQ ?_
 rcases Bool.eq_false_or_eq_true (!t10_) with h12_ | h12_
 replace H:=ite_n (not_t (bnot_t h12_)) H
 refine cT h12_ rfl ?_
 refine c_seq rfl ?_
 refine r_ordb (l:=[0,1]) rfl (by kernel_rfl) ?_
 refine sA rfl ?_
 refine sA rfl ?_
 refine sQ ?_
 refine c_ret rfl ?_
 refine q_then_ret ?_
 have hq_0:=Option.some.inj H
 obtain ⟨ee_0,hq_1⟩:=Prod.mk.inj hq_0
 subst ee_0
 subst hq_1
 exact q_ret (vs:=[.U 0,.bool false]) rfl (.tmp rfl (.tmp rfl .nil)) [] rfl (by decide) (hX)
 replace H:=ite_y (bnot_f h12_) H
 refine cF h12_ rfl ?_
 refine kQ rfl ?_
 refine c_seq rfl ?_
 refine r_ordb (l:=[0,1,2,3]) rfl (by kernel_rfl) ?_
 refine sV rfl (vLA [.I a0,.I a1] 0 Tryz.underlying174 SZ174 rfl) ?_
 obtain ⟨t17_,e18_,H⟩:=bind_s H
 refine s_e rfl rfl (eC [] #[.agg #[.I a0,.I a1]] Tryz.func117 (by decide) rfl (fun w ht=>slot_word_packed_con a0 a1 t17_ e18_ w _)) ?_
 refine sA rfl ?_
 refine sA rfl ?_
 refine sQ ?_
 refine c_ret rfl ?_
 have hq_0:=Option.some.inj H
 obtain ⟨ee_0,hq_1⟩:=Prod.mk.inj hq_0
 subst ee_0
 subst hq_1
 exact q_ret (vs:=[.U t17_,.bool true]) rfl (.tmp rfl (.tmp rfl .nil)) [] rfl (by decide) (hX)
def sw_taken.f (p0:Int) (p1:Int) (p2:Int) (p3:Int) (p4:Int) (p5:Int) (p6:Int) (l0_7:List Int) (a1:Int):Option Bool:=(slot_Meta.f 1 (a1 / 4294967296 % 1073741824)).bind fun (t6_,t7_)=>(sw_at.f p0 p1 p2 p3 p4 p5 p6 l0_7 (a1 % 4294967296) 0).bind fun t11_=>some ((t11_:Int) == t6_)
set_option maxRecDepth 100000 in
set_option maxHeartbeats 4000000 in
theorem sw_taken_con (p0:Int) (p1:Int) (p2:Int) (p3:Int) (p4:Int) (p5:Int) (p6:Int) (A0_7:Option Addr) (c0_7:Nat) (l0_7:List Int) (a1:Int) (r0:Bool) (h:sw_taken.f p0 p1 p2 p3 p4 p5 p6 l0_7 a1=some r0) (w0:World) (Hs:List Nat):Con Tryz.prog 77 #[.agg (cfB p0 p1 p2 p3 p4 p5 p6 A0_7 l0_7.length c0_7),.U a1] w0 Hs [.f (KU A0_7 c0_7 l0_7)] (fun X=>X (.bool r0) []):=by
 refine con_enter (c:=bodyOf Tryz.f77) Tryz.func77 rfl (m:=19) rfl rfl rfl ?_
 intro X hX _
 have H:=h
 unfold sw_taken.f at H
 clear h
 refine c_seq rfl ?_
 refine r_ordb (l:=[0,1]) rfl (by kernel_rfl) ?_
 refine s_e rfl rfl (e_box rfl rfl rfl rfl) ?_
 intro b2_
 refine sA rfl ?_
 refine sE rfl ?_
 refine r_ordb (l:=[0,1,2,3,4,5,6,7]) rfl (by kernel_rfl) ?_
 refine sM rfl ?_
 refine s_e rfl rfl (eC [] #[.U a1] Tryz.func116 (by decide) rfl (fun w ht=>handle_Gen_con a1 w _)) ?_
 obtain ⟨⟨t6_,t7_⟩,e8_,H⟩:=bind_s H
 refine s_e rfl rfl (eC [] #[.I 1,.I (a1 / 4294967296 % 1073741824)] Tryz.func84 (by decide) rfl (fun w ht=>slot_Meta_con 1 (a1 / 4294967296 % 1073741824) t6_ t7_ e8_ w _)) ?_
 refine sM rfl ?_
 refine sV rfl (v_ext rfl rfl rfl) ?_
 refine sV rfl (v_ext rfl rfl rfl) ?_
 refine sA rfl ?_
 refine sA rfl ?_
 refine sE rfl ?_
 obtain ⟨t11_,e12_,H⟩:=bind_s H
 refine r_any [.b b2_ (.cells (cfB p0 p1 p2 p3 p4 p5 p6 A0_7 l0_7.length c0_7) 104 (0,0)),.f (KU A0_7 c0_7 l0_7)] (by kernel_rfl) rfl (by kernel_rfl) (mem_pick (idx:=[0,1]) rfl) ?_
 refine aV 0 rfl (by kernel_rfl) (vLA [.I p0,.I p1,.I p2,.I p3,.I p4,.I p5,.I p6,.slice A0_7 l0_7.length c0_7] 0 Tryz.underlying104 SZ104 rfl) ?_
 refine aV 1 rfl (by kernel_rfl) (vM rfl) ?_
 refine aV 4 rfl (by kernel_rfl) (vM rfl) ?_
 refine a_1 (i:=2) (by kernel_rfl) ?_
 refine i_e rfl rfl (eC [] #[.U a1] Tryz.func30 (by decide) rfl (fun w ht=>handle_Index_con a1 w _)) ?_
 refine ⟨(mem_pick (idx:=[0,1]) rfl),?_⟩
 refine a_1 (i:=3) (by kernel_rfl) ?_
 refine i_e rfl rfl (eC [1] #[.agg (cfB p0 p1 p2 p3 p4 p5 p6 A0_7 l0_7.length c0_7),.I (a1 % 4294967296),.I 0] Tryz.func78 (by decide) rfl (fun w ht=>sw_at_con p0 p1 p2 p3 p4 p5 p6 A0_7 c0_7 l0_7 (a1 % 4294967296) 0 t11_ e12_ w _)) ?_
 refine ⟨(mem_pick (idx:=[0,1]) rfl),?_⟩
 refine aV 5 rfl (by kernel_rfl) (vR rfl) ?_
 refine aV 6 rfl (by kernel_rfl) (vA rfl) ?_
 refine a_end (by kernel_rfl) ?_
 refine q_seq ?_
 refine c_ret rfl ?_
 have e_:=Option.some.inj H
 subst e_
 exact q_ret (vs:=[.bool ((t11_:Int) == t6_)]) rfl (.tmp rfl .nil) [] rfl (by decide) (hX)
def handle_Marked.f (a0:Int):Option Bool:=some ((IntKind.wrap .u64 (BitVec.ofInt (IntKind.bits .u64) a0 &&& BitVec.ofInt (IntKind.bits .u64) 4611686018427387904).toNat:Int) != 0)
set_option maxRecDepth 100000 in
set_option maxHeartbeats 4000000 in
theorem handle_Marked_con (a0:Int) (r0:Bool) (h:handle_Marked.f a0=some r0) (w0:World) (Hs:List Nat):Con Tryz.prog 76 #[.U a0] w0 Hs [] (fun X=>X (.bool r0) []):=by
 refine con_enter (c:=bodyOf Tryz.f76) Tryz.func76 rfl (m:=6) rfl rfl rfl ?_
 intro X hX _
 have H:=h
 unfold handle_Marked.f at H
 clear h
 refine c_seq rfl ?_
 refine r_ordb (l:=[0]) rfl (by kernel_rfl) ?_
 refine sA rfl ?_
 refine sE rfl ?_
 refine r_ordb (l:=[0,1,2,3]) rfl (by kernel_rfl) ?_
 refine sM rfl ?_
 refine sV rfl (v_bits rfl rfl rfl rfl) ?_
 refine sR rfl ?_
 refine sA rfl ?_
 refine sQ ?_
 refine c_ret rfl ?_
 have e_:=Option.some.inj H
 subst e_
 exact q_ret (vs:=[.bool ((IntKind.wrap .u64 (BitVec.ofInt (IntKind.bits .u64) a0 &&& BitVec.ofInt (IntKind.bits .u64) 4611686018427387904).toNat:Int) != 0)]) rfl (.tmp rfl .nil) [] rfl (by decide) (hX)
def sw_marked.f (p0:Int) (p1:Int) (p2:Int) (p3:Int) (p4:Int) (p5:Int) (p6:Int) (l0_7:List Int) (a1:Int) (a2:Int):Option Bool:=(sw_at.f p0 p1 p2 p3 p4 p5 p6 l0_7 (a1 % 4294967296) (IntKind.wrap .i64 (6+a2))).bind fun t7_=>(handle_Marked.f t7_).bind fun t9_=>some t9_
set_option maxRecDepth 100000 in
set_option maxHeartbeats 4000000 in
theorem sw_marked_con (p0:Int) (p1:Int) (p2:Int) (p3:Int) (p4:Int) (p5:Int) (p6:Int) (A0_7:Option Addr) (c0_7:Nat) (l0_7:List Int) (a1:Int) (a2:Int) (r0:Bool) (h:sw_marked.f p0 p1 p2 p3 p4 p5 p6 l0_7 a1 a2=some r0) (w0:World) (Hs:List Nat):Con Tryz.prog 114 #[.agg (cfB p0 p1 p2 p3 p4 p5 p6 A0_7 l0_7.length c0_7),.U a1,.I a2] w0 Hs [.f (KU A0_7 c0_7 l0_7)] (fun X=>X (.bool r0) []):=by
 refine con_enter (c:=bodyOf Tryz.f114) Tryz.func114 rfl (m:=14) rfl rfl rfl ?_
 intro X hX _
 have H:=h
 unfold sw_marked.f at H
 clear h
 refine c_seq rfl ?_
 refine r_ordb (l:=[0,1]) rfl (by kernel_rfl) ?_
 refine s_e rfl rfl (e_box rfl rfl rfl rfl) ?_
 intro b2_
 refine sA rfl ?_
 refine sE rfl ?_
 obtain ⟨t7_,e8_,H⟩:=bind_s H
 obtain ⟨t9_,e10_,H⟩:=bind_s H
 refine r_any [.b b2_ (.cells (cfB p0 p1 p2 p3 p4 p5 p6 A0_7 l0_7.length c0_7) 104 (0,0)),.f (KU A0_7 c0_7 l0_7)] (by kernel_rfl) rfl (by kernel_rfl) (mem_pick (idx:=[0,1]) rfl) ?_
 refine aV 0 rfl (by kernel_rfl) (vLA [.I p0,.I p1,.I p2,.I p3,.I p4,.I p5,.I p6,.slice A0_7 l0_7.length c0_7] 0 Tryz.underlying104 SZ104 rfl) ?_
 refine aV 1 rfl (by kernel_rfl) (vM rfl) ?_
 refine aV 3 rfl (by kernel_rfl) (vM rfl) ?_
 refine aV 4 rfl (by kernel_rfl) (vR rfl) ?_
 refine a_1 (i:=2) (by kernel_rfl) ?_
 refine i_e rfl rfl (eC [] #[.U a1] Tryz.func30 (by decide) rfl (fun w ht=>handle_Index_con a1 w _)) ?_
 refine ⟨(mem_pick (idx:=[0,1]) rfl),?_⟩
 refine a_1 (i:=5) (by kernel_rfl) ?_
 refine i_e rfl rfl (eC [1] #[.agg (cfB p0 p1 p2 p3 p4 p5 p6 A0_7 l0_7.length c0_7),.I (a1 % 4294967296),.I (IntKind.wrap .i64 (6+a2))] Tryz.func78 (by decide) rfl (fun w ht=>sw_at_con p0 p1 p2 p3 p4 p5 p6 A0_7 c0_7 l0_7 (a1 % 4294967296) (IntKind.wrap .i64 (6+a2)) t7_ e8_ w _)) ?_
 refine ⟨(mem_pick (idx:=[0,1]) rfl),?_⟩
 refine a_1 (i:=6) (by kernel_rfl) ?_
 refine i_e rfl rfl (eC [] #[.U t7_] Tryz.func76 (by decide) rfl (fun w ht=>handle_Marked_con t7_ t9_ e10_ w _)) ?_
 refine ⟨(mem_pick (idx:=[0,1]) rfl),?_⟩
 refine aV 7 rfl (by kernel_rfl) (vA rfl) ?_
 refine a_end (by kernel_rfl) ?_
 refine q_seq ?_
 refine c_ret rfl ?_
 have e_:=Option.some.inj H
 subst e_
 exact q_ret (vs:=[.bool t9_]) rfl (.tmp rfl .nil) [] rfl (by decide) (hX)
def slices_Index_uint64_uint64.l0:Nat→List Int→Int→Int→Option Int
 | 0,_,_,_=>none
 | k+1,l0,a1,x7_=>(if (x7_:Int)<(l0.length:Int) then (if 0≤(x7_:Int) then (if (a1:Int)=(rd l0 x7_) then some x7_ else slices_Index_uint64_uint64.l0 k l0 a1 (IntKind.wrap .i64 (x7_+1))) else none) else some (-1))
def slices_Index_uint64_uint64.f (k:Nat) (l0:List Int) (a1:Int):Option Int:=slices_Index_uint64_uint64.l0 k l0 a1 0
set_option maxRecDepth 100000 in
set_option maxHeartbeats 4000000 in
theorem slices_Index_uint64_uint64_con (k:Nat) (A0:Option Addr) (c0:Nat) (l0:List Int) (a1:Int) (r0:Int) (h:slices_Index_uint64_uint64.f k l0 a1=some r0) (w0:World) (Hs:List Nat):Con Tryz.prog 104 #[.slice A0 l0.length c0,.U a1] w0 Hs [.f (KU A0 c0 l0)] (fun X=>X (.I r0) []):=by
 refine con_enter (c:=bodyOf Tryz.f104) Tryz.func104 rfl (m:=19) rfl rfl rfl ?_
 intro X hX _
 have H:=h
 unfold slices_Index_uint64_uint64.f at H
 clear h
 refine c_seq rfl ?_
 refine r_ordb (l:=[0]) rfl (by kernel_rfl) ?_
 refine sA rfl ?_
 refine sE rfl ?_
 refine c_seq rfl ?_
 refine r_ordb (l:=[0,1,2]) rfl (by kernel_rfl) ?_
 refine sM rfl ?_
 refine sV rfl (v_len rfl rfl rfl Tryz.underlying24 rfl rfl) ?_
 refine sM rfl ?_
 refine sQ ?_
 refine c_block rfl ?_
 refine c_loop (σ:=Nat × Int) (fun (k,x7_)=>slices_Index_uint64_uint64.l0 k l0 a1 x7_=some r0) (fun (k,x7_)=>k) (fun (k,x7_)=>[(0,.slice A0 l0.length c0),(1,.U a1),(4,.I 0),(7,.I (l0.length:Int)),(8,.I x7_)]) (fun (k,x7_)=>[.f (KU A0 c0 l0)]) (k,0) [0] rfl H (subF_spec ⟨rfl,rfl,rfl,rfl,rfl,trivial⟩) rfl (by decide) ?_
 rintro ⟨k0_,x7_⟩ hs15_
 clear H
 have H:slices_Index_uint64_uint64.l0 k0_ l0 a1 x7_=some r0:=hs15_
 try clear hs15_
 rcases k0_ with _ | k0_
 ·exact none_no (show none=_ from H)
 unfold slices_Index_uint64_uint64.l0 at H
 have hko_0:k0_≤k0_:=Nat.le_refl _
 refine c_seq rfl ?_
 refine r_ordb (l:=[0]) rfl (by kernel_rfl) ?_
 refine sR rfl ?_
 refine sE rfl ?_
 rcases Bool.eq_false_or_eq_true (decide ((x7_:Int)<(l0.length:Int))) with h19_ | h19_
 ·
  replace H:=ite_y (dec_t h19_) H
  refine cT h19_ rfl ?_
  refine kQ rfl ?_
  refine c_seq rfl ?_
  refine c_block rfl ?_
  refine c_seq rfl ?_
  refine r_ordb (l:=[0,1]) rfl (by kernel_rfl) ?_
  refine sM rfl ?_
  refine sA rfl ?_
  refine sE rfl ?_
  refine r_ordb (l:=[0,1,2,3,4,5]) rfl (by kernel_rfl) ?_
  refine sM rfl ?_
  refine sM rfl ?_
  refine sM rfl ?_
  obtain ⟨n26_,H⟩:=ite_no H
  refine sV rfl (v_iaK (i:=0) rfl Tryz.underlying24 SZ41 rfl rfl rfl rfl n26_ (dec_t h19_)) ?_
  refine sV rfl (v_ldK (v := .U (rd l0 x7_)) 0 0 rfl Tryz.underlying41 rfl rfl rfl rfl n26_ (dec_t h19_) (fun w K h=>h)) ?_
  refine sR rfl ?_
  refine sQ ?_
  rcases Bool.eq_false_or_eq_true ((a1:Int) == (rd l0 x7_)) with h27_ | h27_
  ·
   replace H:=ite_y (ibeq_t h27_) H
   refine cT h27_ rfl ?_
   refine c_seq rfl ?_
   refine r_ordb (l:=[0,1]) rfl (by kernel_rfl) ?_
   refine sM rfl ?_
   refine sA rfl ?_
   refine sQ ?_
   refine c_ret rfl ?_
   refine q_block_ret ?_
   refine q_then_ret ?_
   refine q_then_ret ?_
   refine q_block_ret ?_
   refine q_then_ret ?_
   have e_:=Option.some.inj H
   subst e_
   exact q_ret (vs:=[.I x7_]) rfl (.tmp rfl .nil) [] rfl (by decide) (hX)
  ·
   replace H:=ite_n (ibeq_f h27_) H
   refine cF h27_ rfl ?_
   refine c_skip rfl ?_
   refine q_block ?_
   refine q_seq ?_
   refine r_ordb (l:=[0,1]) rfl (by kernel_rfl) ?_
   refine sR rfl ?_
   refine sM rfl ?_
   refine s_end ?_
   exact q_again (k0_,IntKind.wrap .i64 (x7_+1)) [0] H (Nat.lt_succ_of_le hko_0) (subF_spec ⟨rfl,rfl,rfl,rfl,rfl,trivial⟩) rfl (by decide)
 ·
  replace H:=ite_n (dec_f h19_) H
  refine cF h19_ rfl ?_
  refine c_exit (i:=0) rfl rfl ?_
  refine q_then_exit ?_
  refine q_then_exit ?_
  refine q_block_here rfl ?_
  refine q_seq ?_
  refine c_seq rfl ?_
  refine r_ordb (l:=[0]) rfl (by kernel_rfl) ?_
  refine sA rfl ?_
  refine sQ ?_
  refine c_ret rfl ?_
  have e_:=Option.some.inj H
  subst e_
  exact q_ret (vs:=[.I (-1)]) rfl (.tmp rfl .nil) [] rfl (by decide) (hX)
def slices_Contains_uint64_uint64.f (k:Nat) (l0:List Int) (a1:Int):Option Bool:=(slices_Index_uint64_uint64.f k l0 a1).bind fun t3_=>some (decide ((t3_:Int)≥0))
set_option maxRecDepth 100000 in
set_option maxHeartbeats 4000000 in
theorem slices_Contains_uint64_uint64_con (k:Nat) (A0:Option Addr) (c0:Nat) (l0:List Int) (a1:Int) (r0:Bool) (h:slices_Contains_uint64_uint64.f k l0 a1=some r0) (w0:World) (Hs:List Nat):Con Tryz.prog 64 #[.slice A0 l0.length c0,.U a1] w0 Hs [.f (KU A0 c0 l0)] (fun X=>X (.bool r0) []):=by
 refine con_enter (c:=bodyOf Tryz.f64) Tryz.func64 rfl (m:=9) rfl rfl rfl ?_
 intro X hX _
 have H:=h
 unfold slices_Contains_uint64_uint64.f at H
 clear h
 refine c_seq rfl ?_
 refine r_ordb (l:=[0]) rfl (by kernel_rfl) ?_
 refine sA rfl ?_
 refine sE rfl ?_
 refine r_ordb (l:=[0,1,2,3,4]) rfl (by kernel_rfl) ?_
 refine sM rfl ?_
 refine sM rfl ?_
 obtain ⟨t3_,e4_,H⟩:=bind_s H
 refine s_e rfl rfl (eC [0] #[.slice A0 l0.length c0,.U a1] Tryz.func104 (by decide) rfl (fun w ht=>slices_Index_uint64_uint64_con _ A0 c0 l0 a1 t3_ e4_ w _)) ?_
 refine sR rfl ?_
 refine sA rfl ?_
 refine sQ ?_
 refine c_ret rfl ?_
 have e_:=Option.some.inj H
 subst e_
 exact q_ret (vs:=[.bool (decide ((t3_:Int)≥0))]) rfl (.tmp rfl .nil) [] rfl (by decide) (hX)
def slot_Dead.f (a0:Int):Option Bool:=some ((IntKind.wrap .u64 (BitVec.ofInt (IntKind.bits .u64) a0 &&& BitVec.ofInt (IntKind.bits .u64) 1).toNat:Int) == 1)
set_option maxRecDepth 100000 in
set_option maxHeartbeats 4000000 in
theorem slot_Dead_con (a0:Int) (r0:Bool) (h:slot_Dead.f a0=some r0) (w0:World) (Hs:List Nat):Con Tryz.prog 113 #[.U a0] w0 Hs [] (fun X=>X (.bool r0) []):=by
 refine con_enter (c:=bodyOf Tryz.f113) Tryz.func113 rfl (m:=6) rfl rfl rfl ?_
 intro X hX _
 have H:=h
 unfold slot_Dead.f at H
 clear h
 refine c_seq rfl ?_
 refine r_ordb (l:=[0]) rfl (by kernel_rfl) ?_
 refine sA rfl ?_
 refine sE rfl ?_
 refine r_ordb (l:=[0,1,2,3]) rfl (by kernel_rfl) ?_
 refine sM rfl ?_
 refine sV rfl (v_bits rfl rfl rfl rfl) ?_
 refine sR rfl ?_
 refine sA rfl ?_
 refine sQ ?_
 refine c_ret rfl ?_
 have e_:=Option.some.inj H
 subst e_
 exact q_ret (vs:=[.bool ((IntKind.wrap .u64 (BitVec.ofInt (IntKind.bits .u64) a0 &&& BitVec.ofInt (IntKind.bits .u64) 1).toNat:Int) == 1)]) rfl (.tmp rfl .nil) [] rfl (by decide) (hX)
end Go.Eng
namespace Go.Eng
open Go.Proofs Go.RowKit Go.Proofs.YtgbcnokeaaabfaaGreatW.PrintWords
set_option linter.unusedVariables false
set_option linter.unusedSimpArgs false
set_option maxRecDepth 100000 in
set_option maxHeartbeats 4000000 in
theorem slGrow_con (a1:Int) (h0:0≤a1) (h1:a1<5864062014805) (w0:World) (Hs:List Nat):Con Tryz.prog 79 #[.slice none 0 0,.I a1] w0 Hs [] (fun X=>∀ ro,ORow 3 enc53 ro ([]:List S53)→X (.slice (OA ro) 0 (OC ro)) [OE 53 ro]):=by
 have hk0:decide ((a1:Int)<0)=false:=decide_eq_false (by omega)
 rcases Int.lt_or_le 0 a1 with hp | hp
 have hk1:decide ((a1:Int) > 0)=true:=decide_eq_true hp
 refine con_enter (c:=bodyOf Tryz.f79) Tryz.func79 rfl (m:=27) rfl rfl rfl ?_
 intro X hX _
 refine c_seq rfl ?_
 refine r_ordb (l:=[0]) rfl (by kernel_rfl) ?_
 refine sA rfl ?_
 refine sE rfl ?_
 refine c_seq rfl ?_
 refine r_ordb (l:=[0,1]) rfl (by kernel_rfl) ?_
 refine sM rfl ?_
 refine sV rfl (OpV.cast (v := .bool false) (vR rfl) (congrArg Value.bool hk0)) ?_
 refine sQ ?_
 refine c_cond0 rfl rfl ?_
 refine kQ rfl ?_
 refine c_seq rfl ?_
 refine c_seq rfl ?_
 refine r_ordb (l:=[0,1,2,3,4,5,6,7]) rfl (by kernel_rfl) ?_
 refine sM rfl ?_
 refine sM rfl ?_
 refine sV rfl (v_cap0 rfl rfl rfl Tryz.underlying29 rfl rfl) ?_
 refine sM rfl ?_
 refine sV rfl (v_len rfl rfl rfl Tryz.underlying29 rfl rfl) ?_
 refine sR rfl ?_
 refine sV rfl (OpV.cast (v := .I a1) (vR rfl) (congrArg (Value.int .i64) (by rw [show IntKind.wrap .i64 (((0:Nat):Int) - ((0:Nat):Int))=0 from by decide,Int.sub_zero,wi64 (by omega) (by omega)]))) ?_
 refine sA rfl ?_
 refine sE rfl ?_
 refine r_ordb (l:=[0,1]) rfl (by kernel_rfl) ?_
 refine sM rfl ?_
 refine sV rfl (OpV.cast (v := .bool true) (vR rfl) (congrArg Value.bool hk1)) ?_
 refine sQ ?_
 refine c_cond1 rfl rfl ?_
 refine r_ordb (l:=[0,1,2,3,4,5,6,7,8,9]) rfl (by kernel_rfl) ?_
 refine sM rfl ?_
 refine sM rfl ?_
 refine sV rfl (v_cap0 rfl rfl rfl Tryz.underlying29 rfl rfl) ?_
 refine sV rfl (v_slHi (h:=0) rfl Tryz.underlying29 SZ53 rfl rfl (by decide) (by decide)) ?_
 refine sM rfl ?_
 refine s_e rfl rfl (e_appZ (z:=(.agg #[.U 0,.U 0,.U 0])) (m:=3) (bytes:=24) rfl rfl rfl rfl rfl rfl Tryz.underlying29 Tryz.underlying3 (by kernel_rfl) rfl (by decide) rfl rfl hp (by omega) (by simp only [maxLen]; omega)) ?_
 intro g6_ cap7_ cur8_ h9_ h10_
 refine sM rfl ?_
 refine sV rfl (v_len rfl rfl rfl Tryz.underlying29 rfl rfl) ?_
 refine sV rfl (v_slHi (h:=0) rfl Tryz.underlying29 SZ53 rfl rfl (by decide) (by omega)) ?_
 refine sA rfl ?_
 refine sE rfl ?_
 refine r_ordb (l:=[0,1]) rfl (by kernel_rfl) ?_
 refine sM rfl ?_
 refine sA rfl ?_
 refine sQ ?_
 refine c_ret rfl ?_
 exact q_ret (vs:=[.slice (some ⟨g6_,0,none⟩) 0 cap7_]) rfl (.tmp rfl .nil) [0] rfl (by decide) (hX (some (g6_,cap7_,cur8_)) ⟨Nat.zero_le _,h9_,h10_,by simp⟩)
 have hk1:decide ((a1:Int) > 0)=false:=decide_eq_false (by omega)
 refine con_enter (c:=bodyOf Tryz.f79) Tryz.func79 rfl (m:=27) rfl rfl rfl ?_
 intro X hX _
 refine c_seq rfl ?_
 refine r_ordb (l:=[0]) rfl (by kernel_rfl) ?_
 refine sA rfl ?_
 refine sE rfl ?_
 refine c_seq rfl ?_
 refine r_ordb (l:=[0,1]) rfl (by kernel_rfl) ?_
 refine sM rfl ?_
 refine sV rfl (OpV.cast (v := .bool false) (vR rfl) (congrArg Value.bool hk0)) ?_
 refine sQ ?_
 refine c_cond0 rfl rfl ?_
 refine kQ rfl ?_
 refine c_seq rfl ?_
 refine c_seq rfl ?_
 refine r_ordb (l:=[0,1,2,3,4,5,6,7]) rfl (by kernel_rfl) ?_
 refine sM rfl ?_
 refine sM rfl ?_
 refine sV rfl (v_cap0 rfl rfl rfl Tryz.underlying29 rfl rfl) ?_
 refine sM rfl ?_
 refine sV rfl (v_len rfl rfl rfl Tryz.underlying29 rfl rfl) ?_
 refine sR rfl ?_
 refine sV rfl (OpV.cast (v := .I a1) (vR rfl) (congrArg (Value.int .i64) (by rw [show IntKind.wrap .i64 (((0:Nat):Int) - ((0:Nat):Int))=0 from by decide,Int.sub_zero,wi64 (by omega) (by omega)]))) ?_
 refine sA rfl ?_
 refine sE rfl ?_
 refine r_ordb (l:=[0,1]) rfl (by kernel_rfl) ?_
 refine sM rfl ?_
 refine sV rfl (OpV.cast (v := .bool false) (vR rfl) (congrArg Value.bool hk1)) ?_
 refine sQ ?_
 refine c_cond0 rfl rfl ?_
 refine kQ rfl ?_
 refine c_seq rfl ?_
 refine r_ordb (l:=[0,1]) rfl (by kernel_rfl) ?_
 refine sM rfl ?_
 refine sA rfl ?_
 refine sQ ?_
 refine c_ret rfl ?_
 refine q_know (φ:=fun _=>True) (fun _=>trivial) ?_
 exact q_ret (vs:=[.slice none 0 0]) rfl (.tmp rfl .nil) [0] rfl (by decide) (hX none rfl)
mutual
def slConcat.l1:Nat→List (List S53)→Int→List S53→Option (List S53)
 | 0,_,_,_=>none
 | k+1,l0,x62_,xs60_=>(if (x62_:Int)<(l0.length:Int) then (if 0≤(x62_:Int) then (if xs60_.length+(l0.getD (Int.toNat x62_) []).length<5864062014805 then slConcat.l1 k l0 (IntKind.wrap .i64 (x62_+1)) (xs60_ ++ (l0.getD (Int.toNat x62_) [])) else none) else none) else some xs60_)
def slConcat.l0:Nat→List (List S53)→Int→Int→Option (List S53)
 | 0,_,_,_=>none
 | k+1,l0,x9_,x10_=>(if (x10_:Int)<(l0.length:Int) then (if 0≤(x10_:Int) then (if (IntKind.wrap .i64 (x9_+((l0.getD (Int.toNat x10_) []).length:Int)):Int)<0 then none else slConcat.l0 k l0 (IntKind.wrap .i64 (x9_+((l0.getD (Int.toNat x10_) []).length:Int))) (IntKind.wrap .i64 (x10_+1))) else none) else (if 0≤(x9_:Int) then (if (x9_:Int)<5864062014805 then slConcat.l1 k l0 0 ([]:List S53) else none) else none))
end
def slConcat.f (k:Nat) (l0:List (List S53)):Option (List S53):=slConcat.l0 k l0 0 0
set_option maxRecDepth 100000 in
set_option maxHeartbeats 4000000 in
theorem slConcat_con (k:Nat) (A0:Option Addr) (c0:Nat) (l0:List (List S53)) (r0:List S53) (h:slConcat.f k l0=some r0) (w0:World) (Hs:List Nat):Con Tryz.prog 28 #[.slice A0 l0.length c0] w0 Hs [.f (KC (Kd.slice 53 k53) A0 c0 l0)] (fun X=>∀ A_r0 c_r0,X (.slice A_r0 r0.length c_r0) [.f (KC k53 A_r0 c_r0 r0)]):=by
 refine con_enter (c:=bodyOf Tryz.f28) Tryz.func28 rfl (m:=36) rfl rfl rfl ?_
 intro X hX _
 have H:=h
 unfold slConcat.f at H
 clear h
 refine c_seq rfl ?_
 refine r_ordb (l:=[0]) rfl (by kernel_rfl) ?_
 refine sA rfl ?_
 refine sE rfl ?_
 refine r_ordb (l:=[0]) rfl (by kernel_rfl) ?_
 refine sA rfl ?_
 refine sE rfl ?_
 refine c_seq rfl ?_
 refine r_ordb (l:=[0,1,2]) rfl (by kernel_rfl) ?_
 refine sM rfl ?_
 refine sV rfl (v_len rfl rfl rfl Tryz.underlying61 rfl rfl) ?_
 refine sM rfl ?_
 refine sQ ?_
 refine c_block rfl ?_
 refine c_loop (σ:=Nat × Int × Int) (fun (k,x9_,x10_)=>slConcat.l0 k l0 x9_ x10_=some r0) (fun (k,x9_,x10_)=>k) (fun (k,x9_,x10_)=>[(0,.slice A0 l0.length c0),(2,.slice none 0 0),(3,.I x9_),(9,.slice A0 l0.length c0),(10,.I (l0.length:Int)),(11,.I x10_)]) (fun (k,x9_,x10_)=>[.f (KC (Kd.slice 53 k53) A0 c0 l0)]) (k,0,0) [0] rfl H (subF_spec ⟨rfl,rfl,rfl,rfl,rfl,rfl,trivial⟩) rfl (by decide) ?_
 rintro ⟨k0_,x9_,x10_⟩ hs20_
 clear H
 have H:slConcat.l0 k0_ l0 x9_ x10_=some r0:=hs20_
 try clear hs20_
 rcases k0_ with _ | k0_
 ·exact none_no (show none=_ from H)
 unfold slConcat.l0 at H
 have hko_0:k0_≤k0_:=Nat.le_refl _
 refine c_seq rfl ?_
 refine r_ordb (l:=[0]) rfl (by kernel_rfl) ?_
 refine sR rfl ?_
 refine sE rfl ?_
 rcases Bool.eq_false_or_eq_true (decide ((x10_:Int)<(l0.length:Int))) with h24_ | h24_
 ·
  replace H:=ite_y (dec_t h24_) H
  refine cT h24_ rfl ?_
  refine kQ rfl ?_
  refine c_seq rfl ?_
  refine c_block rfl ?_
  refine c_seq rfl ?_
  refine r_ordb (l:=[0,1,2]) rfl (by kernel_rfl) ?_
  obtain ⟨n35_,H⟩:=ite_no H
  refine sV rfl (v_iaK (i:=0) rfl Tryz.underlying61 SZ29 rfl rfl rfl rfl n35_ (dec_t h24_)) ?_
  refine s_e rfl rfl (e_ldRR 0 rfl rfl rfl Tryz.underlying29 rfl rfl n35_ (dec_t h24_)) ?_
  intro A36_ c37_
  refine sA rfl ?_
  refine sE rfl ?_
  refine r_ordb (l:=[0,1,2,3,4]) rfl (by kernel_rfl) ?_
  refine sM rfl ?_
  refine sM rfl ?_
  refine sV rfl (v_len rfl rfl rfl Tryz.underlying29 rfl rfl) ?_
  refine sR rfl ?_
  refine sA rfl ?_
  refine sE rfl ?_
  refine r_ordb (l:=[0,1]) rfl (by kernel_rfl) ?_
  refine sM rfl ?_
  refine sR rfl ?_
  refine sQ ?_
  rcases Bool.eq_false_or_eq_true (decide ((IntKind.wrap .i64 (x9_+((l0.getD (Int.toNat x10_) []).length:Int)):Int)<0)) with h38_ | h38_
  ·
   replace H:=ite_y (dec_t h38_) H
   refine cT h38_ rfl ?_
   exact none_no H
  ·
   replace H:=ite_n (dec_f h38_) H
   refine cF h38_ rfl ?_
   refine c_skip rfl ?_
   refine q_block ?_
   refine q_seq ?_
   refine r_ordb (l:=[0,1]) rfl (by kernel_rfl) ?_
   refine sR rfl ?_
   refine sM rfl ?_
   refine s_end ?_
   exact q_again (k0_,IntKind.wrap .i64 (x9_+((l0.getD (Int.toNat x10_) []).length:Int)),IntKind.wrap .i64 (x10_+1)) [1] H (Nat.lt_succ_of_le hko_0) (subF_spec ⟨rfl,rfl,rfl,rfl,rfl,rfl,trivial⟩) rfl (by decide)
 ·
  replace H:=ite_n (dec_f h24_) H
  refine cF h24_ rfl ?_
  refine c_exit (i:=0) rfl rfl ?_
  refine q_then_exit ?_
  refine q_then_exit ?_
  refine q_block_here rfl ?_
  refine q_seq ?_
  refine c_seq rfl ?_
  refine r_ordb (l:=[0,1,2]) rfl (by kernel_rfl) ?_
  refine sM rfl ?_
  obtain ⟨n46_,H⟩:=ite_no H
  obtain ⟨n47_,H⟩:=ite_no H
  refine s_e rfl rfl (eC [] #[.slice none 0 0,.I x9_] Tryz.func79 (by decide) rfl (fun w ht=>slGrow_con x9_ n46_ n47_ w _)) ?_
  intro ro48_ hr49_
  refine sA rfl ?_
  refine sE rfl ?_
  refine c_seq rfl ?_
  refine r_ordb (l:=[0,1,2]) rfl (by kernel_rfl) ?_
  refine sM rfl ?_
  refine sV rfl (v_len rfl rfl rfl Tryz.underlying61 rfl rfl) ?_
  refine sM rfl ?_
  refine sQ ?_
  refine c_block rfl ?_
  refine c_loop (σ:=Nat × Int × Ro × List S53) (fun (k,x62_,ro59_,xs60_)=>slConcat.l1 k l0 x62_ xs60_=some r0∧ORow 3 enc53 ro59_ xs60_) (fun (k,x62_,ro59_,xs60_)=>k) (fun (k,x62_,ro59_,xs60_)=>[(2,.slice none 0 0),(6,.slice (OA ro59_) xs60_.length (OC ro59_)),(25,.slice A0 l0.length c0),(26,.I (l0.length:Int)),(27,.I x62_)]) (fun (k,x62_,ro59_,xs60_)=>[OE 53 ro59_,.f (KC (Kd.slice 53 k53) A0 c0 l0)]) (k0_,0,ro48_,([]:List S53)) [0,1] rfl ⟨H,hr49_⟩ (subF_spec ⟨rfl,rfl,rfl,rfl,rfl,trivial⟩) rfl (by decide) ?_
  rintro ⟨k1_,x62_,ro59_,xs60_⟩ hs73_
  clear H
  obtain ⟨H,hr61_⟩:slConcat.l1 k1_ l0 x62_ xs60_=some r0∧ORow 3 enc53 ro59_ xs60_:=hs73_
  try clear hs73_
  rcases k1_ with _ | k1_
  ·exact none_no (show none=_ from H)
  unfold slConcat.l1 at H
  have hko_1:k1_≤k1_:=Nat.le_refl _
  refine c_seq rfl ?_
  refine r_ordb (l:=[0]) rfl (by kernel_rfl) ?_
  refine sR rfl ?_
  refine sE rfl ?_
  rcases Bool.eq_false_or_eq_true (decide ((x62_:Int)<(l0.length:Int))) with h77_ | h77_
  ·
   replace H:=ite_y (dec_t h77_) H
   refine cT h77_ rfl ?_
   refine kQ rfl ?_
   refine c_seq rfl ?_
   refine c_block rfl ?_
   refine c_seq rfl ?_
   refine r_ordb (l:=[0,1,2]) rfl (by kernel_rfl) ?_
   obtain ⟨n89_,H⟩:=ite_no H
   refine sV rfl (v_iaK (i:=1) rfl Tryz.underlying61 SZ29 rfl rfl rfl rfl n89_ (dec_t h77_)) ?_
   refine s_e rfl rfl (e_ldRR 1 rfl rfl rfl Tryz.underlying29 rfl rfl n89_ (dec_t h77_)) ?_
   intro A90_ c91_
   refine sA rfl ?_
   refine sQ ?_
   refine r_ordb (l:=[0,1,2,3]) rfl (by kernel_rfl) ?_
   refine sM rfl ?_
   refine sM rfl ?_
   obtain ⟨n92_,H⟩:=ite_no H
   refine s_e rfl rfl (e_appOK flat53 (xs:=xs60_) (ro:=ro59_) (l:=(l0.getD (Int.toNat x62_) [])) (z:=(.agg #[.U 0,.U 0,.U 0])) (m:=3) (bytes:=24) (i:=0) (j:=1) rfl rfl rfl rfl rfl rfl Tryz.underlying29 (by kernel_rfl) rfl rfl rfl rfl hr61_ rfl rfl rfl (by first | omega | (simp only [List.length_nil,Nat.zero_add]; omega)) (by simp only [maxLen]; first | omega | (simp only [List.length_nil,Nat.zero_add]; omega))) ?_
   intro ro93_ hr94_ sm95_
   refine sA rfl ?_
   refine s_end ?_
   refine q_block ?_
   refine q_seq ?_
   refine r_ordb (l:=[0,1]) rfl (by kernel_rfl) ?_
   refine sR rfl ?_
   refine sM rfl ?_
   refine s_end ?_
   exact q_again (k1_,IntKind.wrap .i64 (x62_+1),ro93_,(xs60_ ++ (l0.getD (Int.toNat x62_) []))) [1,2] ⟨H,hr94_⟩ (Nat.lt_succ_of_le hko_1) (subF_spec ⟨rfl,rfl,rfl,rfl,rfl,trivial⟩) rfl (by decide)
  ·
   replace H:=ite_n (dec_f h77_) H
   refine cF h77_ rfl ?_
   refine c_exit (i:=2) rfl rfl ?_
   refine q_then_exit ?_
   refine q_then_exit ?_
   refine q_block_here rfl ?_
   refine q_seq ?_
   refine c_seq rfl ?_
   refine r_ordb (l:=[0,1]) rfl (by kernel_rfl) ?_
   refine sM rfl ?_
   refine sA rfl ?_
   refine sQ ?_
   refine c_ret rfl ?_
   refine q_giveO flat53 hr61_ [0,1] rfl (by decide) rfl ?_
   have e_:=Option.some.inj H
   subst e_
   exact q_ret (vs:=[.slice (OA ro59_) xs60_.length (OC ro59_)]) rfl (.tmp rfl .nil) [0] rfl (by decide) (hX (OA ro59_) (OC ro59_))
def plan_Where.f (p0:Int) (p1:Int) (p2:Int) (p3:Int) (p4:Int) (p5:Int) (p6:Int) (a1:Int):Option (Int × Int × Int):=(plan_Len.f p0 p1 p2 p3 p4 p5 p6).bind fun t16_=>(plan_within.f a1 0 (IntKind.wrap .i64 (t16_ - 1))).bind fun t18_=>(if t18_=true then (plan_first.f p0 p1 p2 p3 p4 p5 p6).bind fun t25_=>(if (a1:Int)=0 then some (1,0,0) else (if (IntKind.wrap .i64 (a1 - t25_):Int)<0 then (if ¬ (p1:Int)=0 then some (2,IntKind.wrap .i64 (Int.tdiv (IntKind.wrap .i64 (a1 - 1)) p1),Int.tmod (IntKind.wrap .i64 (a1 - 1)) p1) else none) else (plan_fields.f p0 p1 p2 p3 p4 p5 p6).bind fun t48_=>(if ¬ (t48_:Int)=0 then (plan_fields.f p0 p1 p2 p3 p4 p5 p6).bind fun t51_=>(if ¬ (t51_:Int)=0 then some (3,IntKind.wrap .i64 (Int.tdiv (IntKind.wrap .i64 (a1 - t25_)) t48_),Int.tmod (IntKind.wrap .i64 (a1 - t25_)) t51_) else none) else none))) else some (0,0,0))
set_option maxRecDepth 100000 in
set_option maxHeartbeats 4000000 in
theorem plan_Where_con (p0:Int) (p1:Int) (p2:Int) (p3:Int) (p4:Int) (p5:Int) (p6:Int) (a1:Int) (r0:Int) (r1:Int) (r2:Int) (h:plan_Where.f p0 p1 p2 p3 p4 p5 p6 a1=some (r0,r1,r2)) (w0:World) (Hs:List Nat):Con Tryz.prog 73 #[.agg (cfA p0 p1 p2 p3 p4 p5 p6),.I a1] w0 Hs [] (fun X=>X (.agg #[.I r0,.I r1,.I r2]) []):=by
 refine con_enter (c:=bodyOf Tryz.f73) Tryz.func73 rfl (m:=44) rfl rfl rfl ?_
 intro X hX _
 have H:=h
 unfold plan_Where.f at H
 clear h
 refine c_seq rfl ?_
 refine r_ordb (l:=[0,1]) rfl (by kernel_rfl) ?_
 refine s_e rfl rfl (e_box rfl rfl rfl rfl) ?_
 intro b3_
 refine s_e rfl rfl (e_alloc rfl rfl rfl ZR139) ?_
 intro b4_
 refine sE rfl ?_
 refine c_seq rfl ?_
 refine r_ordb (l:=[0,1,2,3,4,5]) rfl (by kernel_rfl) ?_
 refine sM rfl ?_
 refine sV rfl (vLA (lfA p0 p1 p2 p3 p4 p5 p6) 1 Tryz.underlying23 SZ23 rfl) ?_
 obtain ⟨t16_,e17_,H⟩:=bind_s H
 refine s_e rfl rfl (eC [] #[.agg (cfA p0 p1 p2 p3 p4 p5 p6)] Tryz.func97 (by decide) rfl (fun w ht=>plan_Len_con p0 p1 p2 p3 p4 p5 p6 t16_ e17_ w _)) ?_
 refine sR rfl ?_
 obtain ⟨t18_,e19_,H⟩:=bind_s H
 refine s_e rfl rfl (eC [] #[.I a1,.I 0,.I (IntKind.wrap .i64 (t16_ - 1))] Tryz.func86 (by decide) rfl (fun w ht=>plan_within_con a1 0 (IntKind.wrap .i64 (t16_ - 1)) t18_ e19_ w _)) ?_
 refine sV rfl (v_not rfl rfl) ?_
 refine sQ ?_
 rcases Bool.eq_false_or_eq_true (!t18_) with h20_ | h20_
 replace H:=ite_n (not_t (bnot_t h20_)) H
 refine cT h20_ rfl ?_
 refine c_seq rfl ?_
 refine r_ordb (l:=[0,1]) rfl (by kernel_rfl) ?_
 refine sV rfl (v_build (places:=#[(0,1),(1,1),(2,1)]) #[.I 0,.I 0,.I 0] rfl ZR139 Tryz.underlying139 (by kernel_rfl) rfl (by kernel_rfl)) ?_
 refine s_e rfl rfl (e_stA 0 rfl rfl SZ139 rfl rfl rfl rfl rfl rfl) ?_
 refine sQ ?_
 refine c_ret rfl ?_
 refine q_then_ret ?_
 have hq_0:=Option.some.inj H
 obtain ⟨ee_0,hq_1⟩:=Prod.mk.inj hq_0
 obtain ⟨ee_1,hq_2⟩:=Prod.mk.inj hq_1
 subst ee_0
 subst ee_1
 subst hq_2
 exact q_ret (vs:=[.agg #[.I 0,.I 0,.I 0]]) rfl (.agg [.I 0,.I 0,.I 0] 0 rfl Tryz.underlying139 rfl SZ139 rfl rfl rfl .nil) [] rfl (by decide) (hX)
 replace H:=ite_y (bnot_f h20_) H
 refine cF h20_ rfl ?_
 refine kQ rfl ?_
 refine c_seq rfl ?_
 refine r_ordb (l:=[0,1,2,3,4]) rfl (by kernel_rfl) ?_
 refine sM rfl ?_
 refine sV rfl (vLA (lfA p0 p1 p2 p3 p4 p5 p6) 1 Tryz.underlying23 SZ23 rfl) ?_
 obtain ⟨t25_,e26_,H⟩:=bind_s H
 refine s_e rfl rfl (eC [] #[.agg (cfA p0 p1 p2 p3 p4 p5 p6)] Tryz.func88 (by decide) rfl (fun w ht=>plan_first_con p0 p1 p2 p3 p4 p5 p6 t25_ e26_ w _)) ?_
 refine sR rfl ?_
 refine sA rfl ?_
 refine sE rfl ?_
 refine c_block rfl ?_
 refine c_seq rfl ?_
 refine r_ordb (l:=[0,1,2]) rfl (by kernel_rfl) ?_
 refine sM rfl ?_
 refine sR rfl ?_
 refine sA rfl ?_
 refine sQ ?_
 rcases Bool.eq_false_or_eq_true ((a1:Int) == 0) with h34_ | h34_
 replace H:=ite_y (ibeq_t h34_) H
 refine cT h34_ rfl ?_
 refine c_seq rfl ?_
 refine r_ordb (l:=[0,1]) rfl (by kernel_rfl) ?_
 refine sV rfl (v_build (places:=#[(0,1),(1,1),(2,1)]) #[.I 1,.I 0,.I 0] rfl ZR139 Tryz.underlying139 (by kernel_rfl) rfl (by kernel_rfl)) ?_
 refine s_e rfl rfl (e_stA 0 rfl rfl SZ139 rfl rfl rfl rfl rfl rfl) ?_
 refine sQ ?_
 refine c_ret rfl ?_
 refine q_block_ret ?_
 refine q_then_ret ?_
 have hq_0:=Option.some.inj H
 obtain ⟨ee_0,hq_1⟩:=Prod.mk.inj hq_0
 obtain ⟨ee_1,hq_2⟩:=Prod.mk.inj hq_1
 subst ee_0
 subst ee_1
 subst hq_2
 exact q_ret (vs:=[.agg #[.I 1,.I 0,.I 0]]) rfl (.agg [.I 1,.I 0,.I 0] 0 rfl Tryz.underlying139 rfl SZ139 rfl rfl rfl .nil) [] rfl (by decide) (hX)
 replace H:=ite_n (ibeq_f h34_) H
 refine cF h34_ rfl ?_
 refine c_seq rfl ?_
 refine r_ordb (l:=[0,1,2]) rfl (by kernel_rfl) ?_
 refine sM rfl ?_
 refine sR rfl ?_
 refine sA rfl ?_
 refine sQ ?_
 rcases Bool.eq_false_or_eq_true (decide ((IntKind.wrap .i64 (a1 - t25_):Int)<0)) with h37_ | h37_
 replace H:=ite_y (dec_t h37_) H
 refine cT h37_ rfl ?_
 refine c_seq rfl ?_
 obtain ⟨n40_,H⟩:=ite_no H
 refine r_any [.b b3_ (.cells (cfA p0 p1 p2 p3 p4 p5 p6) 23 (0,0))] (by kernel_rfl) rfl (by kernel_rfl) (mem_pick (idx:=[1]) rfl) ?_
 refine aV 0 rfl (by kernel_rfl) (vM rfl) ?_
 refine aV 1 rfl (by kernel_rfl) (vR rfl) ?_
 refine aV 2 rfl (by kernel_rfl) (vF Tryz.underlying23 SZ3 rfl) ?_
 refine aV 3 rfl (by kernel_rfl) (vL 0 Tryz.underlying3 rfl) ?_
 refine aV 4 rfl (by kernel_rfl) (v_div rfl rfl rfl n40_) ?_
 refine aV 5 rfl (by kernel_rfl) (vM rfl) ?_
 refine aV 6 rfl (by kernel_rfl) (vR rfl) ?_
 refine aV 7 rfl (by kernel_rfl) (vF Tryz.underlying23 SZ3 rfl) ?_
 refine aV 8 rfl (by kernel_rfl) (vL 0 Tryz.underlying3 rfl) ?_
 refine aV 9 rfl (by kernel_rfl) (v_rem rfl rfl rfl n40_) ?_
 refine aV 10 rfl (by kernel_rfl) (v_build (places:=#[(0,1),(1,1),(2,1)]) #[.I 2,.I (IntKind.wrap .i64 (Int.tdiv (IntKind.wrap .i64 (a1 - 1)) p1)),.I (Int.tmod (IntKind.wrap .i64 (a1 - 1)) p1)] rfl ZR139 Tryz.underlying139 (by kernel_rfl) rfl (by kernel_rfl)) ?_
 refine a_1 (i:=11) (by kernel_rfl) ?_
 refine i_e rfl rfl (e_stA 0 rfl rfl SZ139 rfl rfl rfl rfl rfl rfl) ?_
 refine ⟨(mem_pick (idx:=[1]) rfl),?_⟩
 refine a_end (by kernel_rfl) ?_
 refine q_seq ?_
 refine c_ret rfl ?_
 refine q_block_ret ?_
 refine q_then_ret ?_
 have hq_0:=Option.some.inj H
 obtain ⟨ee_0,hq_1⟩:=Prod.mk.inj hq_0
 obtain ⟨ee_1,hq_2⟩:=Prod.mk.inj hq_1
 subst ee_0
 subst ee_1
 subst hq_2
 exact q_ret (vs:=[.agg #[.I 2,.I (IntKind.wrap .i64 (Int.tdiv (IntKind.wrap .i64 (a1 - 1)) p1)),.I (Int.tmod (IntKind.wrap .i64 (a1 - 1)) p1)]]) rfl (.agg [.I 2,.I (IntKind.wrap .i64 (Int.tdiv (IntKind.wrap .i64 (a1 - 1)) p1)),.I (Int.tmod (IntKind.wrap .i64 (a1 - 1)) p1)] 0 rfl Tryz.underlying139 rfl SZ139 rfl rfl rfl .nil) [] rfl (by decide) (hX)
 replace H:=ite_n (dec_f h37_) H
 refine cF h37_ rfl ?_
 refine c_skip rfl ?_
 refine q_block ?_
 refine q_seq ?_
 refine c_seq rfl ?_
 obtain ⟨t48_,e49_,H⟩:=bind_s H
 obtain ⟨n50_,H⟩:=ite_no H
 obtain ⟨t51_,e52_,H⟩:=bind_s H
 obtain ⟨n53_,H⟩:=ite_no H
 refine r_any [.b b3_ (.cells (cfA p0 p1 p2 p3 p4 p5 p6) 23 (0,0))] (by kernel_rfl) rfl (by kernel_rfl) (mem_pick (idx:=[1]) rfl) ?_
 refine aV 0 rfl (by kernel_rfl) (vM rfl) ?_
 refine aV 1 rfl (by kernel_rfl) (vLA (lfA p0 p1 p2 p3 p4 p5 p6) 0 Tryz.underlying23 SZ23 rfl) ?_
 refine aV 4 rfl (by kernel_rfl) (vM rfl) ?_
 refine aV 5 rfl (by kernel_rfl) (vLA (lfA p0 p1 p2 p3 p4 p5 p6) 0 Tryz.underlying23 SZ23 rfl) ?_
 refine a_1 (i:=2) (by kernel_rfl) ?_
 refine i_e rfl rfl (eC [] #[.agg (cfA p0 p1 p2 p3 p4 p5 p6)] Tryz.func87 (by decide) rfl (fun w ht=>plan_fields_con p0 p1 p2 p3 p4 p5 p6 t48_ e49_ w _)) ?_
 refine ⟨(mem_pick (idx:=[1]) rfl),?_⟩
 refine aV 3 rfl (by kernel_rfl) (v_div rfl rfl rfl n50_) ?_
 refine a_1 (i:=6) (by kernel_rfl) ?_
 refine i_e rfl rfl (eC [] #[.agg (cfA p0 p1 p2 p3 p4 p5 p6)] Tryz.func87 (by decide) rfl (fun w ht=>plan_fields_con p0 p1 p2 p3 p4 p5 p6 t51_ e52_ w _)) ?_
 refine ⟨(mem_pick (idx:=[1]) rfl),?_⟩
 refine aV 7 rfl (by kernel_rfl) (v_rem rfl rfl rfl n53_) ?_
 refine aV 8 rfl (by kernel_rfl) (v_build (places:=#[(0,1),(1,1),(2,1)]) #[.I 3,.I (IntKind.wrap .i64 (Int.tdiv (IntKind.wrap .i64 (a1 - t25_)) t48_)),.I (Int.tmod (IntKind.wrap .i64 (a1 - t25_)) t51_)] rfl ZR139 Tryz.underlying139 (by kernel_rfl) rfl (by kernel_rfl)) ?_
 refine a_1 (i:=9) (by kernel_rfl) ?_
 refine i_e rfl rfl (e_stA 0 rfl rfl SZ139 rfl rfl rfl rfl rfl rfl) ?_
 refine ⟨(mem_pick (idx:=[1]) rfl),?_⟩
 refine a_end (by kernel_rfl) ?_
 refine q_seq ?_
 refine c_ret rfl ?_
 have hq_0:=Option.some.inj H
 obtain ⟨ee_0,hq_1⟩:=Prod.mk.inj hq_0
 obtain ⟨ee_1,hq_2⟩:=Prod.mk.inj hq_1
 subst ee_0
 subst ee_1
 subst hq_2
 exact q_ret (vs:=[.agg #[.I 3,.I (IntKind.wrap .i64 (Int.tdiv (IntKind.wrap .i64 (a1 - t25_)) t48_)),.I (Int.tmod (IntKind.wrap .i64 (a1 - t25_)) t51_)]]) rfl (.agg [.I 3,.I (IntKind.wrap .i64 (Int.tdiv (IntKind.wrap .i64 (a1 - t25_)) t48_)),.I (Int.tmod (IntKind.wrap .i64 (a1 - t25_)) t51_)] 0 rfl Tryz.underlying139 rfl SZ139 rfl rfl rfl .nil) [] rfl (by decide) (hX)
def slot_State.f (a0:Int):Option Int:=some (IntKind.wrap .i64 (IntKind.wrap .u64 (BitVec.ofInt (IntKind.bits .u64) a0 &&& BitVec.ofInt (IntKind.bits .u64) 3).toNat))
set_option maxRecDepth 100000 in
set_option maxHeartbeats 4000000 in
theorem slot_State_con (a0:Int) (r0:Int) (h:slot_State.f a0=some r0) (w0:World) (Hs:List Nat):Con Tryz.prog 31 #[.U a0] w0 Hs [] (fun X=>X (.I r0) []):=by
 refine con_enter (c:=bodyOf Tryz.f31) Tryz.func31 rfl (m:=6) rfl rfl rfl ?_
 intro X hX _
 have H:=h
 unfold slot_State.f at H
 clear h
 refine c_seq rfl ?_
 refine r_ordb (l:=[0]) rfl (by kernel_rfl) ?_
 refine sA rfl ?_
 refine sE rfl ?_
 refine r_ordb (l:=[0,1,2,3]) rfl (by kernel_rfl) ?_
 refine sM rfl ?_
 refine sV rfl (v_bits rfl rfl rfl rfl) ?_
 refine sV rfl (v_conv rfl Tryz.underlying41 Tryz.underlying3 rfl) ?_
 refine sA rfl ?_
 refine sQ ?_
 refine c_ret rfl ?_
 have e_:=Option.some.inj H
 subst e_
 exact q_ret (vs:=[.I (IntKind.wrap .i64 (IntKind.wrap .u64 (BitVec.ofInt (IntKind.bits .u64) a0 &&& BitVec.ofInt (IntKind.bits .u64) 3).toNat))]) rfl (.tmp rfl .nil) [] rfl (by decide) (hX)
def stepstonelaw06_News.l0:Nat→List S47→Int→List S53→Option (List S53)
 | 0,_,_,_=>none
 | k+1,l0,x13_,xs11_=>(if (x13_:Int)<(l0.length:Int) then (if 0≤(x13_:Int) then (if xs11_.length<5864062014805 then stepstonelaw06_News.l0 k l0 (IntKind.wrap .i64 (x13_+1)) (xs11_ ++ [(⟨(rd_T47 l0 x13_).f0,(rd_T47 l0 x13_).f1,(rd_T47 l0 x13_).f2⟩:S53)]) else none) else none) else some xs11_)
def stepstonelaw06_News.f (k:Nat) (l0:List S47):Option (List S53):=stepstonelaw06_News.l0 k l0 0 ([]:List S53)
set_option maxRecDepth 100000 in
set_option maxHeartbeats 4000000 in
theorem stepstonelaw06_News_con (k:Nat) (A0:Option Addr) (c0:Nat) (l0:List S47) (r0:List S53) (h:stepstonelaw06_News.f k l0=some r0) (w0:World) (Hs:List Nat):Con Tryz.prog 7 #[.slice A0 l0.length c0] w0 Hs [.f (KC k47 A0 c0 l0)] (fun X=>∀ A_r0 c_r0,X (.slice A_r0 r0.length c_r0) [.f (KC k53 A_r0 c_r0 r0)]):=by
 refine con_enter (c:=bodyOf Tryz.f7) Tryz.func7 rfl (m:=18) rfl rfl rfl ?_
 intro X hX _
 have H:=h
 unfold stepstonelaw06_News.f at H
 clear h
 refine c_seq rfl ?_
 refine r_ordb (l:=[0]) rfl (by kernel_rfl) ?_
 refine sA rfl ?_
 refine sE rfl ?_
 refine r_ordb (l:=[0]) rfl (by kernel_rfl) ?_
 refine sA rfl ?_
 refine sE rfl ?_
 refine c_seq rfl ?_
 refine r_ordb (l:=[0,1,2]) rfl (by kernel_rfl) ?_
 refine sM rfl ?_
 refine sV rfl (v_len rfl rfl rfl Tryz.underlying25 rfl rfl) ?_
 refine sM rfl ?_
 refine sQ ?_
 refine c_block rfl ?_
 refine c_knowT (φ:=fun _=>True) (fun _=>trivial) ?_
 refine c_loop (σ:=Nat × Int × Ro × List S53) (fun (k,x13_,ro10_,xs11_)=>stepstonelaw06_News.l0 k l0 x13_ xs11_=some r0∧ORow 3 enc53 ro10_ xs11_) (fun (k,x13_,ro10_,xs11_)=>k) (fun (k,x13_,ro10_,xs11_)=>[(2,.slice none 0 0),(3,.slice (OA ro10_) xs11_.length (OC ro10_)),(6,.slice A0 l0.length c0),(7,.I (l0.length:Int)),(8,.I x13_)]) (fun (k,x13_,ro10_,xs11_)=>[.f (KC k47 A0 c0 l0),OE 53 ro10_]) (k,0,none,([]:List S53)) [1,0] rfl ⟨H,ORow.nil⟩ (subF_spec ⟨rfl,rfl,rfl,rfl,rfl,trivial⟩) rfl (by decide) ?_
 rintro ⟨k0_,x13_,ro10_,xs11_⟩ hs24_
 clear H
 obtain ⟨H,hr12_⟩:stepstonelaw06_News.l0 k0_ l0 x13_ xs11_=some r0∧ORow 3 enc53 ro10_ xs11_:=hs24_
 try clear hs24_
 rcases k0_ with _ | k0_
 ·exact none_no (show none=_ from H)
 unfold stepstonelaw06_News.l0 at H
 have hko_0:k0_≤k0_:=Nat.le_refl _
 refine c_seq rfl ?_
 refine r_ordb (l:=[0]) rfl (by kernel_rfl) ?_
 refine sR rfl ?_
 refine sE rfl ?_
 rcases Bool.eq_false_or_eq_true (decide ((x13_:Int)<(l0.length:Int))) with h28_ | h28_
 ·
  replace H:=ite_y (dec_t h28_) H
  refine cT h28_ rfl ?_
  refine kQ rfl ?_
  refine c_seq rfl ?_
  refine c_block rfl ?_
  refine c_seq rfl ?_
  refine r_ordb (l:=[0,1,2,3]) rfl (by kernel_rfl) ?_
  obtain ⟨n39_,H⟩:=ite_no H
  refine sV rfl (v_iaK (i:=0) rfl Tryz.underlying25 SZ47 rfl rfl rfl rfl n39_ (dec_t h28_)) ?_
  refine sV rfl (v_ldKA z47 [.U ((rd_T47 l0 x13_).f0),.U ((rd_T47 l0 x13_).f1),.U ((rd_T47 l0 x13_).f2)] 0 rfl Tryz.underlying47 rfl SZ47 rfl rfl rfl rfl n39_ (dec_t h28_) (fun w K h=>k47_open h)) ?_
  refine s_e rfl rfl (e_alloc rfl rfl rfl ZR47) ?_
  intro b40_
  refine s_e rfl rfl (e_stA 0 rfl rfl SZ47 rfl rfl rfl rfl rfl rfl) ?_
  refine sQ ?_
  refine r_ordb (l:=[0,1,2,3,4]) rfl (by kernel_rfl) ?_
  refine sM rfl ?_
  refine sV rfl (vLA [.U ((rd_T47 l0 x13_).f0),.U ((rd_T47 l0 x13_).f1),.U ((rd_T47 l0 x13_).f2)] 0 Tryz.underlying47 SZ47 rfl) ?_
  refine s_e rfl rfl (e_bslice #[.U ((rd_T47 l0 x13_).f0),.U ((rd_T47 l0 x13_).f1),.U ((rd_T47 l0 x13_).f2)] (.agg #[.U 0,.U 0,.U 0]) rfl rfl rfl Tryz.underlying29 SZ53 ZR53 (by decide) rfl (by kernel_rfl)) ?_
  intro b41_
  obtain ⟨n42_,H⟩:=ite_no H
  refine s_e rfl rfl (e_appO (enc:=enc53) (v:=(⟨(rd_T47 l0 x13_).f0,(rd_T47 l0 x13_).f1,(rd_T47 l0 x13_).f2⟩:S53)) (xs:=xs11_) (ro:=ro10_) (z:=(.agg #[.U 0,.U 0,.U 0])) (m:=3) (bytes:=24) (i:=0) (j:=3) rfl rfl rfl rfl rfl rfl Tryz.underlying29 (by kernel_rfl) rfl (by decide) rfl rfl hr12_ rfl rfl rfl rfl (flat53.one _) (by omega) (by simp only [maxLen]; omega)) ?_
  intro ro43_ hr44_ sm45_
  refine sA rfl ?_
  refine s_end ?_
  refine q_block ?_
  refine q_seq ?_
  refine r_ordb (l:=[0,1]) rfl (by kernel_rfl) ?_
  refine sR rfl ?_
  refine sM rfl ?_
  refine s_end ?_
  exact q_again (k0_,IntKind.wrap .i64 (x13_+1),ro43_,(xs11_ ++ [(⟨(rd_T47 l0 x13_).f0,(rd_T47 l0 x13_).f1,(rd_T47 l0 x13_).f2⟩:S53)])) [2,3] ⟨H,hr44_⟩ (Nat.lt_succ_of_le hko_0) (subF_spec ⟨rfl,rfl,rfl,rfl,rfl,trivial⟩) rfl (by decide)
 ·
  replace H:=ite_n (dec_f h28_) H
  refine cF h28_ rfl ?_
  refine c_exit (i:=0) rfl rfl ?_
  refine q_then_exit ?_
  refine q_then_exit ?_
  refine q_block_here rfl ?_
  refine q_seq ?_
  refine c_seq rfl ?_
  refine r_ordb (l:=[0,1]) rfl (by kernel_rfl) ?_
  refine sM rfl ?_
  refine sA rfl ?_
  refine sQ ?_
  refine c_ret rfl ?_
  refine q_giveO flat53 hr12_ [1,0] rfl (by decide) rfl ?_
  have e_:=Option.some.inj H
  subst e_
  exact q_ret (vs:=[.slice (OA ro10_) xs11_.length (OC ro10_)]) rfl (.tmp rfl .nil) [0] rfl (by decide) (hX (OA ro10_) (OC ro10_))
def sr04_Right.f (p0:Int) (p1:Int) (p2:Int) (p3:Int) (p4:Int) (p5:Int) (p6:Int):Option Bool:=((if (p0:Int)<1 then some true else (if (p0:Int) > 8 then some true else (if (p1:Int)<1 then some true else (if (p1:Int) > 8 then some true else (if (p2:Int)<1 then some true else (if (p2:Int) > 64 then some true else (if (p3:Int)<1 then some true else some (decide ((p3:Int) > 6))))))))):Option Bool).bind fun j48_=>(if j48_=true then some false else ((if (p4:Int)≥1 then (if (p4:Int)≤64 then (if (p5:Int)≥1 then (if (p5:Int)≤64 then (if (p6:Int)≥0 then some (decide ((p6:Int)≤1073741823)) else some false) else some false) else some false) else some false) else some false):Option Bool).bind fun j66_=>some j66_)
set_option maxRecDepth 100000 in
set_option maxHeartbeats 4000000 in
theorem sr04_Right_con (p0:Int) (p1:Int) (p2:Int) (p3:Int) (p4:Int) (p5:Int) (p6:Int) (r0:Bool) (h:sr04_Right.f p0 p1 p2 p3 p4 p5 p6=some r0) (w0:World) (Hs:List Nat):Con Tryz.prog 50 #[.agg (cfA p0 p1 p2 p3 p4 p5 p6)] w0 Hs [] (fun X=>X (.bool r0) []):=by
 refine con_enter (c:=bodyOf Tryz.f50) Tryz.func50 rfl (m:=69) rfl rfl rfl ?_
 intro X hX _
 have H:=h
 unfold sr04_Right.f at H
 clear h
 refine c_seq rfl ?_
 refine r_ordb (l:=[0,1]) rfl (by kernel_rfl) ?_
 refine s_e rfl rfl (e_box rfl rfl rfl rfl) ?_
 intro b2_
 refine sA rfl ?_
 refine sE rfl ?_
 obtain ⟨j48_,e49_,H⟩:=bind_s H
 refine c_join (β:=Unit) (fun _=>True) (fun _=>[(1,.P b2_),(2,.bool false),(40,.bool j48_)]) (fun _=>[.b b2_ (.cells (cfA p0 p1 p2 p3 p4 p5 p6) 23 (0,0))]) rfl (fun _ _=>?_) (fun J_=>?_)
 rcases Bool.eq_false_or_eq_true j48_ with h50_ | h50_
 subst h50_
 replace H:=ite_y rfl H
 refine c_cond1 rfl rfl ?_
 refine c_seq rfl ?_
 refine r_ordb (l:=[0]) rfl (by kernel_rfl) ?_
 refine sA rfl ?_
 refine sQ ?_
 refine c_ret rfl ?_
 refine q_then_ret ?_
 have e_:=Option.some.inj H
 subst e_
 exact q_ret (vs:=[.bool false]) rfl (.tmp rfl .nil) [] rfl (by decide) (hX)
 subst h50_
 replace H:=ite_n (by decide) H
 refine c_cond0 rfl rfl ?_
 refine kQ rfl ?_
 obtain ⟨j66_,e67_,H⟩:=bind_s H
 refine c_join (β:=Unit) (fun _=>True) (fun _=>[(2,.bool j66_)]) (fun _=>[.b b2_ (.cells (cfA p0 p1 p2 p3 p4 p5 p6) 23 (0,0))]) rfl (fun _ _=>?_) (fun J_=>?_)
 refine c_ret rfl ?_
 have e_:=Option.some.inj H
 subst e_
 exact q_ret (vs:=[.bool j66_]) rfl (.tmp rfl .nil) [] rfl (by decide) (hX)
 clear H
 have H:=e67_
 clear e67_
 refine r_ordb (l:=[0,1,2,3,4,5,6,7,8,9,10,11,12,13,14,15,16,17,18,19,20,21,22,23,24,25,26,27,28]) rfl (by kernel_rfl) ?_
 refine sV rfl (vF Tryz.underlying23 SZ3 rfl) ?_
 refine sV rfl (vL 0 Tryz.underlying3 rfl) ?_
 refine sR rfl ?_
 refine sM rfl ?_
 rcases Bool.eq_false_or_eq_true (decide ((p4:Int)≥1)) with h68_ | h68_
 replace H:=ite_y (dec_t h68_) H
 refine s_splitv (d:=44) (t:=decide ((p4:Int)≥1)) rfl (fun _=>?_) (fun h69_=>absurd (h69_.symm.trans h68_) (by decide))
 refine sG rfl (vF Tryz.underlying23 SZ3 rfl) ?_
 refine sG rfl (vL 0 Tryz.underlying3 rfl) ?_
 refine sG rfl (vR rfl) ?_
 refine sP rfl ?_
 refine sM rfl ?_
 rcases Bool.eq_false_or_eq_true (decide ((p4:Int)≤64)) with h70_ | h70_
 replace H:=ite_y (dec_t h70_) H
 refine s_splitv (d:=49) (t:=decide ((p4:Int)≤64)) rfl (fun _=>?_) (fun h71_=>absurd (h71_.symm.trans h70_) (by decide))
 refine sG rfl (vF Tryz.underlying23 SZ3 rfl) ?_
 refine sG rfl (vL 0 Tryz.underlying3 rfl) ?_
 refine sG rfl (vR rfl) ?_
 refine sP rfl ?_
 refine sM rfl ?_
 rcases Bool.eq_false_or_eq_true (decide ((p5:Int)≥1)) with h72_ | h72_
 replace H:=ite_y (dec_t h72_) H
 refine s_splitv (d:=54) (t:=decide ((p5:Int)≥1)) rfl (fun _=>?_) (fun h73_=>absurd (h73_.symm.trans h72_) (by decide))
 refine sG rfl (vF Tryz.underlying23 SZ3 rfl) ?_
 refine sG rfl (vL 0 Tryz.underlying3 rfl) ?_
 refine sG rfl (vR rfl) ?_
 refine sP rfl ?_
 refine sM rfl ?_
 rcases Bool.eq_false_or_eq_true (decide ((p5:Int)≤64)) with h74_ | h74_
 replace H:=ite_y (dec_t h74_) H
 refine s_splitv (d:=59) (t:=decide ((p5:Int)≤64)) rfl (fun _=>?_) (fun h75_=>absurd (h75_.symm.trans h74_) (by decide))
 refine sG rfl (vF Tryz.underlying23 SZ3 rfl) ?_
 refine sG rfl (vL 0 Tryz.underlying3 rfl) ?_
 refine sG rfl (vR rfl) ?_
 refine sP rfl ?_
 refine sM rfl ?_
 rcases Bool.eq_false_or_eq_true (decide ((p6:Int)≥0)) with h76_ | h76_
 replace H:=ite_y (dec_t h76_) H
 refine s_splitv (d:=64) (t:=decide ((p6:Int)≥0)) rfl (fun _=>?_) (fun h77_=>absurd (h77_.symm.trans h76_) (by decide))
 refine sG rfl (vF Tryz.underlying23 SZ3 rfl) ?_
 refine sG rfl (vL 0 Tryz.underlying3 rfl) ?_
 refine sG rfl (vR rfl) ?_
 refine sP rfl ?_
 refine sA rfl ?_
 refine s_end ?_
 have hq_0:=Option.some.inj H
 subst hq_0
 exact q_seq (c_frame (subF_spec (by exact ⟨rfl,trivial⟩)) (c_take [0] rfl (by decide) (J_ () trivial)))
 replace H:=ite_n (dec_f h76_) H
 refine s_splitv (d:=64) (t:=decide ((p6:Int)≥0)) rfl (fun h78_=>absurd (h78_.symm.trans h76_) (by decide)) (fun _=>?_)
 refine sN rfl ?_
 refine sN rfl ?_
 refine sN rfl ?_
 refine sP rfl ?_
 refine sA rfl ?_
 refine s_end ?_
 have hq_0:=Option.some.inj H
 subst hq_0
 exact q_seq (c_frame (subF_spec (by exact ⟨rfl,trivial⟩)) (c_take [0] rfl (by decide) (J_ () trivial)))
 replace H:=ite_n (dec_f h74_) H
 refine s_splitv (d:=59) (t:=decide ((p5:Int)≤64)) rfl (fun h79_=>absurd (h79_.symm.trans h74_) (by decide)) (fun _=>?_)
 refine sN rfl ?_
 refine sN rfl ?_
 refine sN rfl ?_
 refine sP rfl ?_
 refine sM rfl ?_
 refine sN rfl ?_
 refine sN rfl ?_
 refine sN rfl ?_
 refine sP rfl ?_
 refine sA rfl ?_
 refine s_end ?_
 have hq_0:=Option.some.inj H
 subst hq_0
 exact q_seq (c_frame (subF_spec (by exact ⟨rfl,trivial⟩)) (c_take [0] rfl (by decide) (J_ () trivial)))
 replace H:=ite_n (dec_f h72_) H
 refine s_splitv (d:=54) (t:=decide ((p5:Int)≥1)) rfl (fun h80_=>absurd (h80_.symm.trans h72_) (by decide)) (fun _=>?_)
 refine sN rfl ?_
 refine sN rfl ?_
 refine sN rfl ?_
 refine sP rfl ?_
 refine sM rfl ?_
 refine sN rfl ?_
 refine sN rfl ?_
 refine sN rfl ?_
 refine sP rfl ?_
 refine sM rfl ?_
 refine sN rfl ?_
 refine sN rfl ?_
 refine sN rfl ?_
 refine sP rfl ?_
 refine sA rfl ?_
 refine s_end ?_
 have hq_0:=Option.some.inj H
 subst hq_0
 exact q_seq (c_frame (subF_spec (by exact ⟨rfl,trivial⟩)) (c_take [0] rfl (by decide) (J_ () trivial)))
 replace H:=ite_n (dec_f h70_) H
 refine s_splitv (d:=49) (t:=decide ((p4:Int)≤64)) rfl (fun h81_=>absurd (h81_.symm.trans h70_) (by decide)) (fun _=>?_)
 refine sN rfl ?_
 refine sN rfl ?_
 refine sN rfl ?_
 refine sP rfl ?_
 refine sM rfl ?_
 refine sN rfl ?_
 refine sN rfl ?_
 refine sN rfl ?_
 refine sP rfl ?_
 refine sM rfl ?_
 refine sN rfl ?_
 refine sN rfl ?_
 refine sN rfl ?_
 refine sP rfl ?_
 refine sM rfl ?_
 refine sN rfl ?_
 refine sN rfl ?_
 refine sN rfl ?_
 refine sP rfl ?_
 refine sA rfl ?_
 refine s_end ?_
 have hq_0:=Option.some.inj H
 subst hq_0
 exact q_seq (c_frame (subF_spec (by exact ⟨rfl,trivial⟩)) (c_take [0] rfl (by decide) (J_ () trivial)))
 replace H:=ite_n (dec_f h68_) H
 refine s_splitv (d:=44) (t:=decide ((p4:Int)≥1)) rfl (fun h82_=>absurd (h82_.symm.trans h68_) (by decide)) (fun _=>?_)
 refine sN rfl ?_
 refine sN rfl ?_
 refine sN rfl ?_
 refine sP rfl ?_
 refine sM rfl ?_
 refine sN rfl ?_
 refine sN rfl ?_
 refine sN rfl ?_
 refine sP rfl ?_
 refine sM rfl ?_
 refine sN rfl ?_
 refine sN rfl ?_
 refine sN rfl ?_
 refine sP rfl ?_
 refine sM rfl ?_
 refine sN rfl ?_
 refine sN rfl ?_
 refine sN rfl ?_
 refine sP rfl ?_
 refine sM rfl ?_
 refine sN rfl ?_
 refine sN rfl ?_
 refine sN rfl ?_
 refine sP rfl ?_
 refine sA rfl ?_
 refine s_end ?_
 have hq_0:=Option.some.inj H
 subst hq_0
 exact q_seq (c_frame (subF_spec (by exact ⟨rfl,trivial⟩)) (c_take [0] rfl (by decide) (J_ () trivial)))
 clear H
 have H:=e49_
 clear e49_
 refine r_ordb (l:=[0,1,2,3,4,5,6,7,8,9,10,11,12,13,14,15,16,17,18,19,20,21,22,23,24,25,26,27,28,29,30,31,32,33,34,35,36,37]) rfl (by kernel_rfl) ?_
 refine sV rfl (vF Tryz.underlying23 SZ3 rfl) ?_
 refine sV rfl (vL 0 Tryz.underlying3 rfl) ?_
 refine sR rfl ?_
 refine sM rfl ?_
 rcases Bool.eq_false_or_eq_true (decide ((p0:Int)<1)) with h83_ | h83_
 replace H:=ite_y (dec_t h83_) H
 refine s_splitv (d:=6) (t:=decide ((p0:Int)<1)) rfl (fun _=>?_) (fun h84_=>absurd (h84_.symm.trans h83_) (by decide))
 refine sN rfl ?_
 refine sN rfl ?_
 refine sN rfl ?_
 refine sP rfl ?_
 refine sM rfl ?_
 refine sN rfl ?_
 refine sN rfl ?_
 refine sN rfl ?_
 refine sP rfl ?_
 refine sM rfl ?_
 refine sN rfl ?_
 refine sN rfl ?_
 refine sN rfl ?_
 refine sP rfl ?_
 refine sM rfl ?_
 refine sN rfl ?_
 refine sN rfl ?_
 refine sN rfl ?_
 refine sP rfl ?_
 refine sM rfl ?_
 refine sN rfl ?_
 refine sN rfl ?_
 refine sN rfl ?_
 refine sP rfl ?_
 refine sM rfl ?_
 refine sN rfl ?_
 refine sN rfl ?_
 refine sN rfl ?_
 refine sP rfl ?_
 refine sM rfl ?_
 refine sN rfl ?_
 refine sN rfl ?_
 refine sN rfl ?_
 refine sP rfl ?_
 refine s_end ?_
 have hq_0:=Option.some.inj H
 subst hq_0
 exact q_seq (c_frame (subF_spec (by exact ⟨rfl,rfl,rfl,trivial⟩)) (c_take [0] rfl (by decide) (J_ () trivial)))
 replace H:=ite_n (dec_f h83_) H
 refine s_splitv (d:=6) (t:=decide ((p0:Int)<1)) rfl (fun h85_=>absurd (h85_.symm.trans h83_) (by decide)) (fun _=>?_)
 refine sG rfl (vF Tryz.underlying23 SZ3 rfl) ?_
 refine sG rfl (vL 0 Tryz.underlying3 rfl) ?_
 refine sG rfl (vR rfl) ?_
 refine sP rfl ?_
 refine sM rfl ?_
 rcases Bool.eq_false_or_eq_true (decide ((p0:Int) > 8)) with h86_ | h86_
 replace H:=ite_y (dec_t h86_) H
 refine s_splitv (d:=11) (t:=decide ((p0:Int) > 8)) rfl (fun _=>?_) (fun h87_=>absurd (h87_.symm.trans h86_) (by decide))
 refine sN rfl ?_
 refine sN rfl ?_
 refine sN rfl ?_
 refine sP rfl ?_
 refine sM rfl ?_
 refine sN rfl ?_
 refine sN rfl ?_
 refine sN rfl ?_
 refine sP rfl ?_
 refine sM rfl ?_
 refine sN rfl ?_
 refine sN rfl ?_
 refine sN rfl ?_
 refine sP rfl ?_
 refine sM rfl ?_
 refine sN rfl ?_
 refine sN rfl ?_
 refine sN rfl ?_
 refine sP rfl ?_
 refine sM rfl ?_
 refine sN rfl ?_
 refine sN rfl ?_
 refine sN rfl ?_
 refine sP rfl ?_
 refine sM rfl ?_
 refine sN rfl ?_
 refine sN rfl ?_
 refine sN rfl ?_
 refine sP rfl ?_
 refine s_end ?_
 have hq_0:=Option.some.inj H
 subst hq_0
 exact q_seq (c_frame (subF_spec (by exact ⟨rfl,rfl,rfl,trivial⟩)) (c_take [0] rfl (by decide) (J_ () trivial)))
 replace H:=ite_n (dec_f h86_) H
 refine s_splitv (d:=11) (t:=decide ((p0:Int) > 8)) rfl (fun h88_=>absurd (h88_.symm.trans h86_) (by decide)) (fun _=>?_)
 refine sG rfl (vF Tryz.underlying23 SZ3 rfl) ?_
 refine sG rfl (vL 0 Tryz.underlying3 rfl) ?_
 refine sG rfl (vR rfl) ?_
 refine sP rfl ?_
 refine sM rfl ?_
 rcases Bool.eq_false_or_eq_true (decide ((p1:Int)<1)) with h89_ | h89_
 replace H:=ite_y (dec_t h89_) H
 refine s_splitv (d:=16) (t:=decide ((p1:Int)<1)) rfl (fun _=>?_) (fun h90_=>absurd (h90_.symm.trans h89_) (by decide))
 refine sN rfl ?_
 refine sN rfl ?_
 refine sN rfl ?_
 refine sP rfl ?_
 refine sM rfl ?_
 refine sN rfl ?_
 refine sN rfl ?_
 refine sN rfl ?_
 refine sP rfl ?_
 refine sM rfl ?_
 refine sN rfl ?_
 refine sN rfl ?_
 refine sN rfl ?_
 refine sP rfl ?_
 refine sM rfl ?_
 refine sN rfl ?_
 refine sN rfl ?_
 refine sN rfl ?_
 refine sP rfl ?_
 refine sM rfl ?_
 refine sN rfl ?_
 refine sN rfl ?_
 refine sN rfl ?_
 refine sP rfl ?_
 refine s_end ?_
 have hq_0:=Option.some.inj H
 subst hq_0
 exact q_seq (c_frame (subF_spec (by exact ⟨rfl,rfl,rfl,trivial⟩)) (c_take [0] rfl (by decide) (J_ () trivial)))
 replace H:=ite_n (dec_f h89_) H
 refine s_splitv (d:=16) (t:=decide ((p1:Int)<1)) rfl (fun h91_=>absurd (h91_.symm.trans h89_) (by decide)) (fun _=>?_)
 refine sG rfl (vF Tryz.underlying23 SZ3 rfl) ?_
 refine sG rfl (vL 0 Tryz.underlying3 rfl) ?_
 refine sG rfl (vR rfl) ?_
 refine sP rfl ?_
 refine sM rfl ?_
 rcases Bool.eq_false_or_eq_true (decide ((p1:Int) > 8)) with h92_ | h92_
 replace H:=ite_y (dec_t h92_) H
 refine s_splitv (d:=21) (t:=decide ((p1:Int) > 8)) rfl (fun _=>?_) (fun h93_=>absurd (h93_.symm.trans h92_) (by decide))
 refine sN rfl ?_
 refine sN rfl ?_
 refine sN rfl ?_
 refine sP rfl ?_
 refine sM rfl ?_
 refine sN rfl ?_
 refine sN rfl ?_
 refine sN rfl ?_
 refine sP rfl ?_
 refine sM rfl ?_
 refine sN rfl ?_
 refine sN rfl ?_
 refine sN rfl ?_
 refine sP rfl ?_
 refine sM rfl ?_
 refine sN rfl ?_
 refine sN rfl ?_
 refine sN rfl ?_
 refine sP rfl ?_
 refine s_end ?_
 have hq_0:=Option.some.inj H
 subst hq_0
 exact q_seq (c_frame (subF_spec (by exact ⟨rfl,rfl,rfl,trivial⟩)) (c_take [0] rfl (by decide) (J_ () trivial)))
 replace H:=ite_n (dec_f h92_) H
 refine s_splitv (d:=21) (t:=decide ((p1:Int) > 8)) rfl (fun h94_=>absurd (h94_.symm.trans h92_) (by decide)) (fun _=>?_)
 refine sG rfl (vF Tryz.underlying23 SZ3 rfl) ?_
 refine sG rfl (vL 0 Tryz.underlying3 rfl) ?_
 refine sG rfl (vR rfl) ?_
 refine sP rfl ?_
 refine sM rfl ?_
 rcases Bool.eq_false_or_eq_true (decide ((p2:Int)<1)) with h95_ | h95_
 replace H:=ite_y (dec_t h95_) H
 refine s_splitv (d:=26) (t:=decide ((p2:Int)<1)) rfl (fun _=>?_) (fun h96_=>absurd (h96_.symm.trans h95_) (by decide))
 refine sN rfl ?_
 refine sN rfl ?_
 refine sN rfl ?_
 refine sP rfl ?_
 refine sM rfl ?_
 refine sN rfl ?_
 refine sN rfl ?_
 refine sN rfl ?_
 refine sP rfl ?_
 refine sM rfl ?_
 refine sN rfl ?_
 refine sN rfl ?_
 refine sN rfl ?_
 refine sP rfl ?_
 refine s_end ?_
 have hq_0:=Option.some.inj H
 subst hq_0
 exact q_seq (c_frame (subF_spec (by exact ⟨rfl,rfl,rfl,trivial⟩)) (c_take [0] rfl (by decide) (J_ () trivial)))
 replace H:=ite_n (dec_f h95_) H
 refine s_splitv (d:=26) (t:=decide ((p2:Int)<1)) rfl (fun h97_=>absurd (h97_.symm.trans h95_) (by decide)) (fun _=>?_)
 refine sG rfl (vF Tryz.underlying23 SZ3 rfl) ?_
 refine sG rfl (vL 0 Tryz.underlying3 rfl) ?_
 refine sG rfl (vR rfl) ?_
 refine sP rfl ?_
 refine sM rfl ?_
 rcases Bool.eq_false_or_eq_true (decide ((p2:Int) > 64)) with h98_ | h98_
 replace H:=ite_y (dec_t h98_) H
 refine s_splitv (d:=31) (t:=decide ((p2:Int) > 64)) rfl (fun _=>?_) (fun h99_=>absurd (h99_.symm.trans h98_) (by decide))
 refine sN rfl ?_
 refine sN rfl ?_
 refine sN rfl ?_
 refine sP rfl ?_
 refine sM rfl ?_
 refine sN rfl ?_
 refine sN rfl ?_
 refine sN rfl ?_
 refine sP rfl ?_
 refine s_end ?_
 have hq_0:=Option.some.inj H
 subst hq_0
 exact q_seq (c_frame (subF_spec (by exact ⟨rfl,rfl,rfl,trivial⟩)) (c_take [0] rfl (by decide) (J_ () trivial)))
 replace H:=ite_n (dec_f h98_) H
 refine s_splitv (d:=31) (t:=decide ((p2:Int) > 64)) rfl (fun h100_=>absurd (h100_.symm.trans h98_) (by decide)) (fun _=>?_)
 refine sG rfl (vF Tryz.underlying23 SZ3 rfl) ?_
 refine sG rfl (vL 0 Tryz.underlying3 rfl) ?_
 refine sG rfl (vR rfl) ?_
 refine sP rfl ?_
 refine sM rfl ?_
 rcases Bool.eq_false_or_eq_true (decide ((p3:Int)<1)) with h101_ | h101_
 replace H:=ite_y (dec_t h101_) H
 refine s_splitv (d:=36) (t:=decide ((p3:Int)<1)) rfl (fun _=>?_) (fun h102_=>absurd (h102_.symm.trans h101_) (by decide))
 refine sN rfl ?_
 refine sN rfl ?_
 refine sN rfl ?_
 refine sP rfl ?_
 refine s_end ?_
 have hq_0:=Option.some.inj H
 subst hq_0
 exact q_seq (c_frame (subF_spec (by exact ⟨rfl,rfl,rfl,trivial⟩)) (c_take [0] rfl (by decide) (J_ () trivial)))
 replace H:=ite_n (dec_f h101_) H
 refine s_splitv (d:=36) (t:=decide ((p3:Int)<1)) rfl (fun h103_=>absurd (h103_.symm.trans h101_) (by decide)) (fun _=>?_)
 refine sG rfl (vF Tryz.underlying23 SZ3 rfl) ?_
 refine sG rfl (vL 0 Tryz.underlying3 rfl) ?_
 refine sG rfl (vR rfl) ?_
 refine sP rfl ?_
 refine s_end ?_
 have hq_0:=Option.some.inj H
 subst hq_0
 exact q_seq (c_frame (subF_spec (by exact ⟨rfl,rfl,rfl,trivial⟩)) (c_take [0] rfl (by decide) (J_ () trivial)))
end Go.Eng
namespace Go.Eng
open Go.Proofs Go.RowKit Go.Proofs.YtgbcnokeaaabfaaGreatW.PrintWords
set_option linter.unusedVariables false
set_option linter.unusedSimpArgs false
def sr04_Len.f (p0:Int) (p1:Int) (p2:Int) (p3:Int) (p4:Int) (p5:Int) (p6:Int):Option Int:=(sr04_Right.f p0 p1 p2 p3 p4 p5 p6).bind fun t10_=>(if t10_=true then some (IntKind.wrap .i64 ((IntKind.wrap .i64 (1+(IntKind.wrap .i64 (p0 * p1))))+(IntKind.wrap .i64 ((IntKind.wrap .i64 (p2+1)) * (IntKind.wrap .i64 (6+p3)))))) else some 0)
set_option maxRecDepth 100000 in
set_option maxHeartbeats 4000000 in
theorem sr04_Len_con (p0:Int) (p1:Int) (p2:Int) (p3:Int) (p4:Int) (p5:Int) (p6:Int) (r0:Int) (h:sr04_Len.f p0 p1 p2 p3 p4 p5 p6=some r0) (w0:World) (Hs:List Nat):Con Tryz.prog 95 #[.agg (cfA p0 p1 p2 p3 p4 p5 p6)] w0 Hs [] (fun X=>X (.I r0) []):=by
 refine con_enter (c:=bodyOf Tryz.f95) Tryz.func95 rfl (m:=20) rfl rfl rfl ?_
 intro X hX _
 have H:=h
 unfold sr04_Len.f at H
 clear h
 refine c_seq rfl ?_
 refine r_ordb (l:=[0,1]) rfl (by kernel_rfl) ?_
 refine s_e rfl rfl (e_box rfl rfl rfl rfl) ?_
 intro b2_
 refine sA rfl ?_
 refine sE rfl ?_
 refine c_seq rfl ?_
 refine r_ordb (l:=[0,1,2]) rfl (by kernel_rfl) ?_
 refine sV rfl (vLA (lfA p0 p1 p2 p3 p4 p5 p6) 0 Tryz.underlying23 SZ23 rfl) ?_
 obtain ⟨t10_,e11_,H⟩:=bind_s H
 refine s_e rfl rfl (eC [] #[.agg (cfA p0 p1 p2 p3 p4 p5 p6)] Tryz.func50 (by decide) rfl (fun w ht=>sr04_Right_con p0 p1 p2 p3 p4 p5 p6 t10_ e11_ w _)) ?_
 refine sV rfl (v_not rfl rfl) ?_
 refine sQ ?_
 rcases Bool.eq_false_or_eq_true (!t10_) with h12_ | h12_
 replace H:=ite_n (not_t (bnot_t h12_)) H
 refine cT h12_ rfl ?_
 refine c_seq rfl ?_
 refine r_ordb (l:=[0]) rfl (by kernel_rfl) ?_
 refine sA rfl ?_
 refine sQ ?_
 refine c_ret rfl ?_
 refine q_then_ret ?_
 have e_:=Option.some.inj H
 subst e_
 exact q_ret (vs:=[.I 0]) rfl (.tmp rfl .nil) [] rfl (by decide) (hX)
 replace H:=ite_y (bnot_f h12_) H
 refine cF h12_ rfl ?_
 refine kQ rfl ?_
 refine c_seq rfl ?_
 refine r_ordb (l:=[0,1,2,3,4,5,6,7,8,9,10,11,12,13,14]) rfl (by kernel_rfl) ?_
 refine sV rfl (vF Tryz.underlying23 SZ3 rfl) ?_
 refine sV rfl (vL 0 Tryz.underlying3 rfl) ?_
 refine sV rfl (vF Tryz.underlying23 SZ3 rfl) ?_
 refine sV rfl (vL 0 Tryz.underlying3 rfl) ?_
 refine sR rfl ?_
 refine sR rfl ?_
 refine sV rfl (vF Tryz.underlying23 SZ3 rfl) ?_
 refine sV rfl (vL 0 Tryz.underlying3 rfl) ?_
 refine sR rfl ?_
 refine sV rfl (vF Tryz.underlying23 SZ3 rfl) ?_
 refine sV rfl (vL 0 Tryz.underlying3 rfl) ?_
 refine sR rfl ?_
 refine sR rfl ?_
 refine sR rfl ?_
 refine sA rfl ?_
 refine sQ ?_
 refine c_ret rfl ?_
 have e_:=Option.some.inj H
 subst e_
 exact q_ret (vs:=[.I (IntKind.wrap .i64 ((IntKind.wrap .i64 (1+(IntKind.wrap .i64 (p0 * p1))))+(IntKind.wrap .i64 ((IntKind.wrap .i64 (p2+1)) * (IntKind.wrap .i64 (6+p3))))))]) rfl (.tmp rfl .nil) [] rfl (by decide) (hX)
def sr21_whole.f (p0:Int) (p1:Int) (p2:Int) (p3:Int) (p4:Int) (p5:Int) (p6:Int) (l1:List Int):Option Bool:=((sr04_Right.f p0 p1 p2 p3 p4 p5 p6).bind fun t10_=>(if t10_=true then (sr04_Len.f p0 p1 p2 p3 p4 p5 p6).bind fun t13_=>some (((l1.length:Int):Int) == t13_) else some false):Option Bool).bind fun j8_=>some j8_
set_option maxRecDepth 100000 in
set_option maxHeartbeats 4000000 in
theorem sr21_whole_con (p0:Int) (p1:Int) (p2:Int) (p3:Int) (p4:Int) (p5:Int) (p6:Int) (A1:Option Addr) (c1:Nat) (l1:List Int) (r0:Bool) (h:sr21_whole.f p0 p1 p2 p3 p4 p5 p6 l1=some r0) (w0:World) (Hs:List Nat):Con Tryz.prog 51 #[.agg (cfA p0 p1 p2 p3 p4 p5 p6),.slice A1 l1.length c1] w0 Hs [.f (KU A1 c1 l1)] (fun X=>X (.bool r0) []):=by
 refine con_enter (c:=bodyOf Tryz.f51) Tryz.func51 rfl (m:=14) rfl rfl rfl ?_
 intro X hX _
 have H:=h
 unfold sr21_whole.f at H
 clear h
 refine c_seq rfl ?_
 refine r_ordb (l:=[0,1]) rfl (by kernel_rfl) ?_
 refine s_e rfl rfl (e_box rfl rfl rfl rfl) ?_
 intro b2_
 refine sA rfl ?_
 refine sQ ?_
 obtain ⟨j8_,e9_,H⟩:=bind_s H
 refine c_join (β:=Unit) (fun _=>True) (fun _=>[(4,.bool j8_)]) (fun _=>[.b b2_ (.cells (cfA p0 p1 p2 p3 p4 p5 p6) 23 (0,0)),.f (KU A1 c1 l1)]) rfl (fun _ _=>?_) (fun J_=>?_)
 refine c_ret rfl ?_
 have e_:=Option.some.inj H
 subst e_
 exact q_ret (vs:=[.bool j8_]) rfl (.tmp rfl .nil) [] rfl (by decide) (hX)
 clear H
 have H:=e9_
 clear e9_
 refine r_ordb (l:=[0,1,2,3,4,5,6,7,8,9]) rfl (by kernel_rfl) ?_
 refine sV rfl (vLA (lfA p0 p1 p2 p3 p4 p5 p6) 0 Tryz.underlying23 SZ23 rfl) ?_
 obtain ⟨t10_,e11_,H⟩:=bind_s H
 refine s_e rfl rfl (eC [] #[.agg (cfA p0 p1 p2 p3 p4 p5 p6)] Tryz.func50 (by decide) rfl (fun w ht=>sr04_Right_con p0 p1 p2 p3 p4 p5 p6 t10_ e11_ w _)) ?_
 refine sM rfl ?_
 rcases Bool.eq_false_or_eq_true t10_ with h12_ | h12_
 subst h12_
 replace H:=ite_y rfl H
 refine sG rfl (vM rfl) ?_
 refine sG rfl (v_len rfl rfl rfl Tryz.underlying24 rfl rfl) ?_
 refine sG rfl (vLA (lfA p0 p1 p2 p3 p4 p5 p6) 0 Tryz.underlying23 SZ23 rfl) ?_
 obtain ⟨t13_,e14_,H⟩:=bind_s H
 refine s_eg rfl rfl (eC [] #[.agg (cfA p0 p1 p2 p3 p4 p5 p6)] Tryz.func95 (by decide) rfl (fun w ht=>sr04_Len_con p0 p1 p2 p3 p4 p5 p6 t13_ e14_ w _)) ?_
 refine sG rfl (vR rfl) ?_
 refine sP rfl ?_
 refine sA rfl ?_
 refine s_end ?_
 have hq_0:=Option.some.inj H
 subst hq_0
 exact q_seq (c_frame (subF_spec (by exact ⟨rfl,trivial⟩)) (c_take [0,1] rfl (by decide) (J_ () trivial)))
 subst h12_
 replace H:=ite_n (by decide) H
 refine sN rfl ?_
 refine sN rfl ?_
 refine sN rfl ?_
 refine sN rfl ?_
 refine sN rfl ?_
 refine sP rfl ?_
 refine sA rfl ?_
 refine s_end ?_
 have hq_0:=Option.some.inj H
 subst hq_0
 exact q_seq (c_frame (subF_spec (by exact ⟨rfl,trivial⟩)) (c_take [0,1] rfl (by decide) (J_ () trivial)))
def sr04_Cell.f (p0:Int) (p1:Int) (p2:Int) (p3:Int) (p4:Int) (p5:Int) (p6:Int) (a1:Int) (a2:Int):Option Int:=((sr04_Right.f p0 p1 p2 p3 p4 p5 p6).bind fun t37_=>(if t37_=true then (if (a1:Int)<0 then some true else (if (a1:Int) > p2 then some true else (if (a2:Int)<0 then some true else some (decide ((a2:Int)≥(IntKind.wrap .i64 (6+p3))))))) else some true):Option Bool).bind fun j34_=>(if j34_=true then some (-1) else some (IntKind.wrap .i64 ((IntKind.wrap .i64 ((IntKind.wrap .i64 (1+(IntKind.wrap .i64 (p0 * p1))))+(IntKind.wrap .i64 (a1 * (IntKind.wrap .i64 (6+p3))))))+a2)))
set_option maxRecDepth 100000 in
set_option maxHeartbeats 4000000 in
theorem sr04_Cell_con (p0:Int) (p1:Int) (p2:Int) (p3:Int) (p4:Int) (p5:Int) (p6:Int) (a1:Int) (a2:Int) (r0:Int) (h:sr04_Cell.f p0 p1 p2 p3 p4 p5 p6 a1 a2=some r0) (w0:World) (Hs:List Nat):Con Tryz.prog 15 #[.agg (cfA p0 p1 p2 p3 p4 p5 p6),.I a1,.I a2] w0 Hs [] (fun X=>X (.I r0) []):=by
 refine con_enter (c:=bodyOf Tryz.f15) Tryz.func15 rfl (m:=45) rfl rfl rfl ?_
 intro X hX _
 have H:=h
 unfold sr04_Cell.f at H
 clear h
 refine c_seq rfl ?_
 refine r_ordb (l:=[0,1]) rfl (by kernel_rfl) ?_
 refine s_e rfl rfl (e_box rfl rfl rfl rfl) ?_
 intro b2_
 refine sA rfl ?_
 refine sE rfl ?_
 obtain ⟨j34_,e35_,H⟩:=bind_s H
 refine c_join (β:=Unit) (fun _=>True) (fun _=>[(1,.I a1),(2,.I a2),(3,.P b2_),(6,.I 0),(30,.bool j34_)]) (fun _=>[.b b2_ (.cells (cfA p0 p1 p2 p3 p4 p5 p6) 23 (0,0))]) rfl (fun _ _=>?_) (fun J_=>?_)
 rcases Bool.eq_false_or_eq_true j34_ with h36_ | h36_
 subst h36_
 replace H:=ite_y rfl H
 refine c_cond1 rfl rfl ?_
 refine c_seq rfl ?_
 refine r_ordb (l:=[0]) rfl (by kernel_rfl) ?_
 refine sA rfl ?_
 refine sQ ?_
 refine c_ret rfl ?_
 refine q_then_ret ?_
 have e_:=Option.some.inj H
 subst e_
 exact q_ret (vs:=[.I (-1)]) rfl (.tmp rfl .nil) [] rfl (by decide) (hX)
 subst h36_
 replace H:=ite_n (by decide) H
 refine c_cond0 rfl rfl ?_
 refine kQ rfl ?_
 refine c_seq rfl ?_
 refine r_ordb (l:=[0,1,2,3,4,5,6,7,8,9,10,11,12,13,14]) rfl (by kernel_rfl) ?_
 refine sV rfl (vF Tryz.underlying23 SZ3 rfl) ?_
 refine sV rfl (vL 0 Tryz.underlying3 rfl) ?_
 refine sV rfl (vF Tryz.underlying23 SZ3 rfl) ?_
 refine sV rfl (vL 0 Tryz.underlying3 rfl) ?_
 refine sR rfl ?_
 refine sR rfl ?_
 refine sM rfl ?_
 refine sV rfl (vF Tryz.underlying23 SZ3 rfl) ?_
 refine sV rfl (vL 0 Tryz.underlying3 rfl) ?_
 refine sR rfl ?_
 refine sR rfl ?_
 refine sR rfl ?_
 refine sM rfl ?_
 refine sR rfl ?_
 refine sA rfl ?_
 refine sQ ?_
 refine c_ret rfl ?_
 have e_:=Option.some.inj H
 subst e_
 exact q_ret (vs:=[.I (IntKind.wrap .i64 ((IntKind.wrap .i64 ((IntKind.wrap .i64 (1+(IntKind.wrap .i64 (p0 * p1))))+(IntKind.wrap .i64 (a1 * (IntKind.wrap .i64 (6+p3))))))+a2))]) rfl (.tmp rfl .nil) [] rfl (by decide) (hX)
 clear H
 have H:=e35_
 clear e35_
 refine r_ordb (l:=[0,1,2,3,4,5,6,7,8,9,10,11,12,13,14,15,16,17,18,19,20,21,22,23]) rfl (by kernel_rfl) ?_
 refine sV rfl (vLA (lfA p0 p1 p2 p3 p4 p5 p6) 0 Tryz.underlying23 SZ23 rfl) ?_
 obtain ⟨t37_,e38_,H⟩:=bind_s H
 refine s_e rfl rfl (eC [] #[.agg (cfA p0 p1 p2 p3 p4 p5 p6)] Tryz.func50 (by decide) rfl (fun w ht=>sr04_Right_con p0 p1 p2 p3 p4 p5 p6 t37_ e38_ w _)) ?_
 refine sV rfl (v_not rfl rfl) ?_
 refine sM rfl ?_
 rcases Bool.eq_false_or_eq_true (!t37_) with h39_ | h39_
 replace H:=ite_n (not_t (bnot_t h39_)) H
 refine s_splitv (d:=10) (t:=!t37_) rfl (fun _=>?_) (fun h40_=>absurd (h40_.symm.trans h39_) (by decide))
 refine sN rfl ?_
 refine sN rfl ?_
 refine sP rfl ?_
 refine sM rfl ?_
 refine sN rfl ?_
 refine sN rfl ?_
 refine sN rfl ?_
 refine sN rfl ?_
 refine sP rfl ?_
 refine sM rfl ?_
 refine sN rfl ?_
 refine sN rfl ?_
 refine sP rfl ?_
 refine sM rfl ?_
 refine sN rfl ?_
 refine sN rfl ?_
 refine sN rfl ?_
 refine sN rfl ?_
 refine sN rfl ?_
 refine sP rfl ?_
 refine s_end ?_
 have hq_0:=Option.some.inj H
 subst hq_0
 exact q_seq (c_frame (subF_spec (by exact ⟨rfl,rfl,rfl,rfl,rfl,trivial⟩)) (c_take [0] rfl (by decide) (J_ () trivial)))
 replace H:=ite_y (bnot_f h39_) H
 refine s_splitv (d:=10) (t:=!t37_) rfl (fun h41_=>absurd (h41_.symm.trans h39_) (by decide)) (fun _=>?_)
 refine sG rfl (vM rfl) ?_
 refine sG rfl (vR rfl) ?_
 refine sP rfl ?_
 refine sM rfl ?_
 rcases Bool.eq_false_or_eq_true (decide ((a1:Int)<0)) with h42_ | h42_
 replace H:=ite_y (dec_t h42_) H
 refine s_splitv (d:=14) (t:=decide ((a1:Int)<0)) rfl (fun _=>?_) (fun h43_=>absurd (h43_.symm.trans h42_) (by decide))
 refine sN rfl ?_
 refine sN rfl ?_
 refine sN rfl ?_
 refine sN rfl ?_
 refine sP rfl ?_
 refine sM rfl ?_
 refine sN rfl ?_
 refine sN rfl ?_
 refine sP rfl ?_
 refine sM rfl ?_
 refine sN rfl ?_
 refine sN rfl ?_
 refine sN rfl ?_
 refine sN rfl ?_
 refine sN rfl ?_
 refine sP rfl ?_
 refine s_end ?_
 have hq_0:=Option.some.inj H
 subst hq_0
 exact q_seq (c_frame (subF_spec (by exact ⟨rfl,rfl,rfl,rfl,rfl,trivial⟩)) (c_take [0] rfl (by decide) (J_ () trivial)))
 replace H:=ite_n (dec_f h42_) H
 refine s_splitv (d:=14) (t:=decide ((a1:Int)<0)) rfl (fun h44_=>absurd (h44_.symm.trans h42_) (by decide)) (fun _=>?_)
 refine sG rfl (vM rfl) ?_
 refine sG rfl (vF Tryz.underlying23 SZ3 rfl) ?_
 refine sG rfl (vL 0 Tryz.underlying3 rfl) ?_
 refine sG rfl (vR rfl) ?_
 refine sP rfl ?_
 refine sM rfl ?_
 rcases Bool.eq_false_or_eq_true (decide ((a1:Int) > p2)) with h45_ | h45_
 replace H:=ite_y (dec_t h45_) H
 refine s_splitv (d:=20) (t:=decide ((a1:Int) > p2)) rfl (fun _=>?_) (fun h46_=>absurd (h46_.symm.trans h45_) (by decide))
 refine sN rfl ?_
 refine sN rfl ?_
 refine sP rfl ?_
 refine sM rfl ?_
 refine sN rfl ?_
 refine sN rfl ?_
 refine sN rfl ?_
 refine sN rfl ?_
 refine sN rfl ?_
 refine sP rfl ?_
 refine s_end ?_
 have hq_0:=Option.some.inj H
 subst hq_0
 exact q_seq (c_frame (subF_spec (by exact ⟨rfl,rfl,rfl,rfl,rfl,trivial⟩)) (c_take [0] rfl (by decide) (J_ () trivial)))
 replace H:=ite_n (dec_f h45_) H
 refine s_splitv (d:=20) (t:=decide ((a1:Int) > p2)) rfl (fun h47_=>absurd (h47_.symm.trans h45_) (by decide)) (fun _=>?_)
 refine sG rfl (vM rfl) ?_
 refine sG rfl (vR rfl) ?_
 refine sP rfl ?_
 refine sM rfl ?_
 rcases Bool.eq_false_or_eq_true (decide ((a2:Int)<0)) with h48_ | h48_
 replace H:=ite_y (dec_t h48_) H
 refine s_splitv (d:=24) (t:=decide ((a2:Int)<0)) rfl (fun _=>?_) (fun h49_=>absurd (h49_.symm.trans h48_) (by decide))
 refine sN rfl ?_
 refine sN rfl ?_
 refine sN rfl ?_
 refine sN rfl ?_
 refine sN rfl ?_
 refine sP rfl ?_
 refine s_end ?_
 have hq_0:=Option.some.inj H
 subst hq_0
 exact q_seq (c_frame (subF_spec (by exact ⟨rfl,rfl,rfl,rfl,rfl,trivial⟩)) (c_take [0] rfl (by decide) (J_ () trivial)))
 replace H:=ite_n (dec_f h48_) H
 refine s_splitv (d:=24) (t:=decide ((a2:Int)<0)) rfl (fun h50_=>absurd (h50_.symm.trans h48_) (by decide)) (fun _=>?_)
 refine sG rfl (vM rfl) ?_
 refine sG rfl (vF Tryz.underlying23 SZ3 rfl) ?_
 refine sG rfl (vL 0 Tryz.underlying3 rfl) ?_
 refine sG rfl (vR rfl) ?_
 refine sG rfl (vR rfl) ?_
 refine sP rfl ?_
 refine s_end ?_
 have hq_0:=Option.some.inj H
 subst hq_0
 exact q_seq (c_frame (subF_spec (by exact ⟨rfl,rfl,rfl,rfl,rfl,trivial⟩)) (c_take [0] rfl (by decide) (J_ () trivial)))
def sr21_at.f (p0:Int) (p1:Int) (p2:Int) (p3:Int) (p4:Int) (p5:Int) (p6:Int) (l1:List Int) (a2:Int) (a3:Int):Option Int:=(sr04_Cell.f p0 p1 p2 p3 p4 p5 p6 a2 a3).bind fun t7_=>(if 0≤(t7_:Int) then (if (t7_:Int)<(l1.length:Int) then some (rd l1 t7_) else none) else none)
set_option maxRecDepth 100000 in
set_option maxHeartbeats 4000000 in
theorem sr21_at_con (p0:Int) (p1:Int) (p2:Int) (p3:Int) (p4:Int) (p5:Int) (p6:Int) (A1:Option Addr) (c1:Nat) (l1:List Int) (a2:Int) (a3:Int) (r0:Int) (h:sr21_at.f p0 p1 p2 p3 p4 p5 p6 l1 a2 a3=some r0) (w0:World) (Hs:List Nat):Con Tryz.prog 46 #[.agg (cfA p0 p1 p2 p3 p4 p5 p6),.slice A1 l1.length c1,.I a2,.I a3] w0 Hs [.f (KU A1 c1 l1)] (fun X=>X (.U r0) []):=by
 refine con_enter (c:=bodyOf Tryz.f46) Tryz.func46 rfl (m:=16) rfl rfl rfl ?_
 intro X hX _
 have H:=h
 unfold sr21_at.f at H
 clear h
 refine c_seq rfl ?_
 refine r_ordb (l:=[0,1]) rfl (by kernel_rfl) ?_
 refine s_e rfl rfl (e_box rfl rfl rfl rfl) ?_
 intro b2_
 refine sA rfl ?_
 refine sE rfl ?_
 refine r_ordb (l:=[0,1,2,3,4,5,6,7]) rfl (by kernel_rfl) ?_
 refine sM rfl ?_
 refine sV rfl (vLA (lfA p0 p1 p2 p3 p4 p5 p6) 0 Tryz.underlying23 SZ23 rfl) ?_
 refine sM rfl ?_
 refine sM rfl ?_
 obtain ⟨t7_,e8_,H⟩:=bind_s H
 refine s_e rfl rfl (eC [] #[.agg (cfA p0 p1 p2 p3 p4 p5 p6),.I a2,.I a3] Tryz.func15 (by decide) rfl (fun w ht=>sr04_Cell_con p0 p1 p2 p3 p4 p5 p6 a2 a3 t7_ e8_ w _)) ?_
 obtain ⟨n9_,H⟩:=ite_no H
 obtain ⟨n10_,H⟩:=ite_no H
 refine sV rfl (v_iaK (i:=1) rfl Tryz.underlying24 SZ41 rfl rfl rfl rfl n9_ n10_) ?_
 refine sV rfl (v_ldK (v := .U (rd l1 t7_)) 0 1 rfl Tryz.underlying41 rfl rfl rfl rfl n9_ n10_ (fun w K h=>h)) ?_
 refine sA rfl ?_
 refine sQ ?_
 refine c_ret rfl ?_
 have e_:=Option.some.inj H
 subst e_
 exact q_ret (vs:=[.U (rd l1 t7_)]) rfl (.tmp rfl .nil) [] rfl (by decide) (hX)
def sr02_Meta.f (a0:Int) (a1:Int):Option (Int × Bool):=((if (a0:Int)<0 then some true else (if (a0:Int) > 2 then some true else (if (a1:Int)<0 then some true else some (decide ((a1:Int) > 1073741823))))):Option Bool).bind fun j22_=>(if j22_=true then some (0,false) else some (IntKind.wrap .u64 (IntKind.wrap .i64 ((IntKind.wrap .i64 (4 * a1))+a0)),true))
set_option maxRecDepth 100000 in
set_option maxHeartbeats 4000000 in
theorem sr02_Meta_con (a0:Int) (a1:Int) (r0:Int) (r1:Bool) (h:sr02_Meta.f a0 a1=some (r0,r1)) (w0:World) (Hs:List Nat):Con Tryz.prog 54 #[.I a0,.I a1] w0 Hs [] (fun X=>X (.tuple #[.U r0,.bool r1]) []):=by
 refine con_enter (c:=bodyOf Tryz.f54) Tryz.func54 rfl (m:=25) rfl rfl rfl ?_
 intro X hX _
 have H:=h
 unfold sr02_Meta.f at H
 clear h
 refine c_seq rfl ?_
 refine r_ordb (l:=[0,1]) rfl (by kernel_rfl) ?_
 refine sA rfl ?_
 refine sA rfl ?_
 refine sE rfl ?_
 obtain ⟨j22_,e23_,H⟩:=bind_s H
 refine c_join (β:=Unit) (fun _=>True) (fun _=>[(0,.I a0),(1,.I a1),(4,.U 0),(5,.bool false),(19,.bool j22_)]) (fun _=>[]) rfl (fun _ _=>?_) (fun J_=>?_)
 rcases Bool.eq_false_or_eq_true j22_ with h24_ | h24_
 subst h24_
 replace H:=ite_y rfl H
 refine c_cond1 rfl rfl ?_
 refine c_seq rfl ?_
 refine r_ordb (l:=[0,1]) rfl (by kernel_rfl) ?_
 refine sA rfl ?_
 refine sA rfl ?_
 refine sQ ?_
 refine c_ret rfl ?_
 refine q_then_ret ?_
 have hq_0:=Option.some.inj H
 obtain ⟨ee_0,hq_1⟩:=Prod.mk.inj hq_0
 subst ee_0
 subst hq_1
 exact q_ret (vs:=[.U 0,.bool false]) rfl (.tmp rfl (.tmp rfl .nil)) [] rfl (by decide) (hX)
 subst h24_
 replace H:=ite_n (by decide) H
 refine c_cond0 rfl rfl ?_
 refine kQ rfl ?_
 refine c_seq rfl ?_
 refine r_ordb (l:=[0,1,2,3,4,5,6]) rfl (by kernel_rfl) ?_
 refine sM rfl ?_
 refine sR rfl ?_
 refine sM rfl ?_
 refine sR rfl ?_
 refine sV rfl (v_conv rfl Tryz.underlying3 Tryz.underlying41 rfl) ?_
 refine sA rfl ?_
 refine sA rfl ?_
 refine sQ ?_
 refine c_ret rfl ?_
 have hq_0:=Option.some.inj H
 obtain ⟨ee_0,hq_1⟩:=Prod.mk.inj hq_0
 subst ee_0
 subst hq_1
 exact q_ret (vs:=[.U (IntKind.wrap .u64 (IntKind.wrap .i64 ((IntKind.wrap .i64 (4 * a1))+a0))),.bool true]) rfl (.tmp rfl (.tmp rfl .nil)) [] rfl (by decide) (hX)
 clear H
 have H:=e23_
 clear e23_
 refine r_ordb (l:=[0,1,2,3,4,5,6,7,8,9,10,11,12,13]) rfl (by kernel_rfl) ?_
 refine sM rfl ?_
 refine sR rfl ?_
 refine sM rfl ?_
 rcases Bool.eq_false_or_eq_true (decide ((a0:Int)<0)) with h25_ | h25_
 replace H:=ite_y (dec_t h25_) H
 refine s_splitv (d:=8) (t:=decide ((a0:Int)<0)) rfl (fun _=>?_) (fun h26_=>absurd (h26_.symm.trans h25_) (by decide))
 refine sN rfl ?_
 refine sN rfl ?_
 refine sP rfl ?_
 refine sM rfl ?_
 refine sN rfl ?_
 refine sN rfl ?_
 refine sP rfl ?_
 refine sM rfl ?_
 refine sN rfl ?_
 refine sN rfl ?_
 refine sP rfl ?_
 refine s_end ?_
 have hq_0:=Option.some.inj H
 subst hq_0
 exact q_seq (c_frame (subF_spec (by exact ⟨rfl,rfl,rfl,rfl,rfl,trivial⟩)) (c_take [] rfl (by decide) (J_ () trivial)))
 replace H:=ite_n (dec_f h25_) H
 refine s_splitv (d:=8) (t:=decide ((a0:Int)<0)) rfl (fun h27_=>absurd (h27_.symm.trans h25_) (by decide)) (fun _=>?_)
 refine sG rfl (vM rfl) ?_
 refine sG rfl (vR rfl) ?_
 refine sP rfl ?_
 refine sM rfl ?_
 rcases Bool.eq_false_or_eq_true (decide ((a0:Int) > 2)) with h28_ | h28_
 replace H:=ite_y (dec_t h28_) H
 refine s_splitv (d:=12) (t:=decide ((a0:Int) > 2)) rfl (fun _=>?_) (fun h29_=>absurd (h29_.symm.trans h28_) (by decide))
 refine sN rfl ?_
 refine sN rfl ?_
 refine sP rfl ?_
 refine sM rfl ?_
 refine sN rfl ?_
 refine sN rfl ?_
 refine sP rfl ?_
 refine s_end ?_
 have hq_0:=Option.some.inj H
 subst hq_0
 exact q_seq (c_frame (subF_spec (by exact ⟨rfl,rfl,rfl,rfl,rfl,trivial⟩)) (c_take [] rfl (by decide) (J_ () trivial)))
 replace H:=ite_n (dec_f h28_) H
 refine s_splitv (d:=12) (t:=decide ((a0:Int) > 2)) rfl (fun h30_=>absurd (h30_.symm.trans h28_) (by decide)) (fun _=>?_)
 refine sG rfl (vM rfl) ?_
 refine sG rfl (vR rfl) ?_
 refine sP rfl ?_
 refine sM rfl ?_
 rcases Bool.eq_false_or_eq_true (decide ((a1:Int)<0)) with h31_ | h31_
 replace H:=ite_y (dec_t h31_) H
 refine s_splitv (d:=16) (t:=decide ((a1:Int)<0)) rfl (fun _=>?_) (fun h32_=>absurd (h32_.symm.trans h31_) (by decide))
 refine sN rfl ?_
 refine sN rfl ?_
 refine sP rfl ?_
 refine s_end ?_
 have hq_0:=Option.some.inj H
 subst hq_0
 exact q_seq (c_frame (subF_spec (by exact ⟨rfl,rfl,rfl,rfl,rfl,trivial⟩)) (c_take [] rfl (by decide) (J_ () trivial)))
 replace H:=ite_n (dec_f h31_) H
 refine s_splitv (d:=16) (t:=decide ((a1:Int)<0)) rfl (fun h33_=>absurd (h33_.symm.trans h31_) (by decide)) (fun _=>?_)
 refine sG rfl (vM rfl) ?_
 refine sG rfl (vR rfl) ?_
 refine sP rfl ?_
 refine s_end ?_
 have hq_0:=Option.some.inj H
 subst hq_0
 exact q_seq (c_frame (subF_spec (by exact ⟨rfl,rfl,rfl,rfl,rfl,trivial⟩)) (c_take [] rfl (by decide) (J_ () trivial)))
def sr02_Taken.f (a0:Int):Option Int:=(sr02_Meta.f 1 a0).bind fun (t4_,t5_)=>some t4_
set_option maxRecDepth 100000 in
set_option maxHeartbeats 4000000 in
theorem sr02_Taken_con (a0:Int) (r0:Int) (h:sr02_Taken.f a0=some r0) (w0:World) (Hs:List Nat):Con Tryz.prog 18 #[.I a0] w0 Hs [] (fun X=>X (.U r0) []):=by
 refine con_enter (c:=bodyOf Tryz.f18) Tryz.func18 rfl (m:=11) rfl rfl rfl ?_
 intro X hX _
 have H:=h
 unfold sr02_Taken.f at H
 clear h
 refine c_seq rfl ?_
 refine r_ordb (l:=[0]) rfl (by kernel_rfl) ?_
 refine sA rfl ?_
 refine sE rfl ?_
 refine r_ordb (l:=[0,1,2,3,4,5,6]) rfl (by kernel_rfl) ?_
 refine sM rfl ?_
 obtain ⟨⟨t4_,t5_⟩,e6_,H⟩:=bind_s H
 refine s_e rfl rfl (eC [] #[.I 1,.I a0] Tryz.func54 (by decide) rfl (fun w ht=>sr02_Meta_con 1 a0 t4_ t5_ e6_ w _)) ?_
 refine sM rfl ?_
 refine sV rfl (v_ext rfl rfl rfl) ?_
 refine sV rfl (v_ext rfl rfl rfl) ?_
 refine sA rfl ?_
 refine sA rfl ?_
 refine sE rfl ?_
 refine r_ordb (l:=[0,1]) rfl (by kernel_rfl) ?_
 refine sM rfl ?_
 refine sA rfl ?_
 refine sQ ?_
 refine c_ret rfl ?_
 have e_:=Option.some.inj H
 subst e_
 exact q_ret (vs:=[.U t4_]) rfl (.tmp rfl .nil) [] rfl (by decide) (hX)
def sr01_Index.f (a0:Int):Option Int:=some (IntKind.wrap .i64 (Int.tmod a0 4294967296))
set_option maxRecDepth 100000 in
set_option maxHeartbeats 4000000 in
theorem sr01_Index_con (a0:Int) (r0:Int) (h:sr01_Index.f a0=some r0) (w0:World) (Hs:List Nat):Con Tryz.prog 17 #[.U a0] w0 Hs [] (fun X=>X (.I r0) []):=by
 refine con_enter (c:=bodyOf Tryz.f17) Tryz.func17 rfl (m:=6) rfl rfl rfl ?_
 intro X hX _
 have H:=h
 unfold sr01_Index.f at H
 clear h
 refine c_seq rfl ?_
 refine r_ordb (l:=[0]) rfl (by kernel_rfl) ?_
 refine sA rfl ?_
 refine sE rfl ?_
 refine r_ordb (l:=[0,1,2,3]) rfl (by kernel_rfl) ?_
 refine sM rfl ?_
 refine sV rfl (v_rem rfl rfl rfl (by decide)) ?_
 refine sV rfl (v_conv rfl Tryz.underlying41 Tryz.underlying3 rfl) ?_
 refine sA rfl ?_
 refine sQ ?_
 refine c_ret rfl ?_
 have e_:=Option.some.inj H
 subst e_
 exact q_ret (vs:=[.I (IntKind.wrap .i64 (Int.tmod a0 4294967296))]) rfl (.tmp rfl .nil) [] rfl (by decide) (hX)
def sr01_Valid.f (a0:Int):Option Bool:=some (decide ((a0:Int)≥9223372036854775808))
set_option maxRecDepth 100000 in
set_option maxHeartbeats 4000000 in
theorem sr01_Valid_con (a0:Int) (r0:Bool) (h:sr01_Valid.f a0=some r0) (w0:World) (Hs:List Nat):Con Tryz.prog 52 #[.U a0] w0 Hs [] (fun X=>X (.bool r0) []):=by
 refine con_enter (c:=bodyOf Tryz.f52) Tryz.func52 rfl (m:=5) rfl rfl rfl ?_
 intro X hX _
 have H:=h
 unfold sr01_Valid.f at H
 clear h
 refine c_seq rfl ?_
 refine r_ordb (l:=[0]) rfl (by kernel_rfl) ?_
 refine sA rfl ?_
 refine sE rfl ?_
 refine r_ordb (l:=[0,1,2]) rfl (by kernel_rfl) ?_
 refine sM rfl ?_
 refine sR rfl ?_
 refine sA rfl ?_
 refine sQ ?_
 refine c_ret rfl ?_
 have e_:=Option.some.inj H
 subst e_
 exact q_ret (vs:=[.bool (decide ((a0:Int)≥9223372036854775808))]) rfl (.tmp rfl .nil) [] rfl (by decide) (hX)
def sr01_Marked.f (a0:Int):Option Bool:=some ((Int.tmod (IntKind.wrap .u64 (Int.tdiv a0 4611686018427387904)) 2:Int) == 1)
set_option maxRecDepth 100000 in
set_option maxHeartbeats 4000000 in
theorem sr01_Marked_con (a0:Int) (r0:Bool) (h:sr01_Marked.f a0=some r0) (w0:World) (Hs:List Nat):Con Tryz.prog 94 #[.U a0] w0 Hs [] (fun X=>X (.bool r0) []):=by
 refine con_enter (c:=bodyOf Tryz.f94) Tryz.func94 rfl (m:=7) rfl rfl rfl ?_
 intro X hX _
 have H:=h
 unfold sr01_Marked.f at H
 clear h
 refine c_seq rfl ?_
 refine r_ordb (l:=[0]) rfl (by kernel_rfl) ?_
 refine sA rfl ?_
 refine sE rfl ?_
 refine r_ordb (l:=[0,1,2,3,4]) rfl (by kernel_rfl) ?_
 refine sM rfl ?_
 refine sV rfl (v_div rfl rfl rfl (by decide)) ?_
 refine sV rfl (v_rem rfl rfl rfl (by decide)) ?_
 refine sR rfl ?_
 refine sA rfl ?_
 refine sQ ?_
 refine c_ret rfl ?_
 have e_:=Option.some.inj H
 subst e_
 exact q_ret (vs:=[.bool ((Int.tmod (IntKind.wrap .u64 (Int.tdiv a0 4611686018427387904)) 2:Int) == 1)]) rfl (.tmp rfl .nil) [] rfl (by decide) (hX)
def sr01_Plain.f (a0:Int):Option Int:=(sr01_Marked.f a0).bind fun t6_=>(if t6_=true then some (IntKind.wrap .u64 (a0 - 4611686018427387904)) else some a0)
set_option maxRecDepth 100000 in
set_option maxHeartbeats 4000000 in
theorem sr01_Plain_con (a0:Int) (r0:Int) (h:sr01_Plain.f a0=some r0) (w0:World) (Hs:List Nat):Con Tryz.prog 53 #[.U a0] w0 Hs [] (fun X=>X (.U r0) []):=by
 refine con_enter (c:=bodyOf Tryz.f53) Tryz.func53 rfl (m:=8) rfl rfl rfl ?_
 intro X hX _
 have H:=h
 unfold sr01_Plain.f at H
 clear h
 refine c_seq rfl ?_
 refine r_ordb (l:=[0]) rfl (by kernel_rfl) ?_
 refine sA rfl ?_
 refine sE rfl ?_
 refine c_seq rfl ?_
 refine r_ordb (l:=[0,1]) rfl (by kernel_rfl) ?_
 refine sM rfl ?_
 obtain ⟨t6_,e7_,H⟩:=bind_s H
 refine s_e rfl rfl (eC [] #[.U a0] Tryz.func94 (by decide) rfl (fun w ht=>sr01_Marked_con a0 t6_ e7_ w _)) ?_
 refine sQ ?_
 rcases Bool.eq_false_or_eq_true t6_ with h8_ | h8_
 subst h8_
 replace H:=ite_y rfl H
 refine c_cond1 rfl rfl ?_
 refine c_seq rfl ?_
 refine r_ordb (l:=[0,1,2]) rfl (by kernel_rfl) ?_
 refine sM rfl ?_
 refine sR rfl ?_
 refine sA rfl ?_
 refine sQ ?_
 refine c_ret rfl ?_
 refine q_then_ret ?_
 have e_:=Option.some.inj H
 subst e_
 exact q_ret (vs:=[.U (IntKind.wrap .u64 (a0 - 4611686018427387904))]) rfl (.tmp rfl .nil) [] rfl (by decide) (hX)
 subst h8_
 replace H:=ite_n (by decide) H
 refine c_cond0 rfl rfl ?_
 refine kQ rfl ?_
 refine c_seq rfl ?_
 refine r_ordb (l:=[0,1]) rfl (by kernel_rfl) ?_
 refine sM rfl ?_
 refine sA rfl ?_
 refine sQ ?_
 refine c_ret rfl ?_
 have e_:=Option.some.inj H
 subst e_
 exact q_ret (vs:=[.U a0]) rfl (.tmp rfl .nil) [] rfl (by decide) (hX)
def sr21_Level.l0:Nat→Int→Int→Int→Int→Int→Int→Int→List Int→Int→Int→List Int→Option ((List Int) × Int)
 | 0,_,_,_,_,_,_,_,_,_,_,_=>none
 | k+1,p0,p1,p2,p3,p4,p5,p6,l1,a2,x57_,xs55_=>(if ((xs55_.length:Int):Int)≤p2 then (sr01_Index.f x57_).bind fun t91_=>((sr01_Valid.f x57_).bind fun t136_=>(if t136_=true then (if (t91_:Int)<1 then some (t136_,!t136_,false,decide ((t91_:Int)<1),true,true) else some (t136_,!t136_,false,decide ((t91_:Int)<1),false,decide ((t91_:Int) > p2))) else some (t136_,!t136_,true,true,true,true)):Option (Bool × Bool × Bool × Bool × Bool × Bool)).bind fun (j112_,j113_,j114_,j115_,j116_,j117_)=>(if j117_=true then some (xs55_,x57_) else (sr01_Plain.f x57_).bind fun t127_=>(if xs55_.length<17592186044416 then (sr21_at.f p0 p1 p2 p3 p4 p5 p6 l1 t91_ (IntKind.wrap .i64 (6+a2))).bind fun t134_=>sr21_Level.l0 k p0 p1 p2 p3 p4 p5 p6 l1 a2 t134_ (xs55_ ++ [t127_]) else none)) else some (xs55_,x57_))
def sr21_Level.f (k:Nat) (p0:Int) (p1:Int) (p2:Int) (p3:Int) (p4:Int) (p5:Int) (p6:Int) (l1:List Int) (a2:Int):Option ((List Int) × Int):=((sr21_whole.f p0 p1 p2 p3 p4 p5 p6 l1).bind fun t145_=>(if t145_=true then (if (a2:Int)<0 then some true else some (decide ((a2:Int)≥p3))) else some true):Option Bool).bind fun j22_=>(if j22_=true then some (([]:List Int),0) else (sr21_at.f p0 p1 p2 p3 p4 p5 p6 l1 0 (IntKind.wrap .i64 (6+a2))).bind fun t27_=>sr21_Level.l0 k p0 p1 p2 p3 p4 p5 p6 l1 a2 t27_ ([]:List Int))
theorem con_own {P:Program} {f:FuncId} {args:Array Value} {w0:World} {Hs:List Nat} {L:HL} {α:Type} {D:Kd α} {enc:α→List Value} {e:TypeId} {r:List α} (hf:Flat D enc) (val:Option Addr→Nat→Value) (hL:ids L=[]) (h:Con P f args w0 Hs L (fun X=>∀ ro:Ro,ORow D.sz enc ro r→X (val (OA ro) (OC ro)) [OE e ro])):Con P f args w0 Hs L (fun X=>∀ A c,X (val A c) [.f (KC D A c r)]):=fun ht X hX =>
 (h ht (fun v L'=>∃ ro:Ro,ORow D.sz enc ro r∧v=val (OA ro) (OC ro)∧L'=[OE e ro]) (fun ro ho=>⟨ro,ho,rfl,rfl⟩)).mono (by
  rintro e' w' ⟨v,L',rfl,⟨ro,ho,rfl,rfl⟩,ht'⟩
  exact ⟨_,_,rfl,hX (OA ro) (OC ro),tri_giveO hf ho ht' [0] rfl (by simp) hL⟩)
set_option maxRecDepth 100000 in
set_option maxHeartbeats 4000000 in
theorem sr21_Level_own (k:Nat) (p0:Int) (p1:Int) (p2:Int) (p3:Int) (p4:Int) (p5:Int) (p6:Int) (A1:Option Addr) (c1:Nat) (l1:List Int) (a2:Int) (r0:List Int) (r1:Int) (h:sr21_Level.f k p0 p1 p2 p3 p4 p5 p6 l1 a2=some (r0,r1)) (w0:World) (Hs:List Nat):Con Tryz.prog 16 #[.agg (cfA p0 p1 p2 p3 p4 p5 p6),.slice A1 l1.length c1,.I a2] w0 Hs [.f (KU A1 c1 l1)] (fun X=>∀ (ro_r0:Ro),ORow 1 (fun x=>[.U x]) ro_r0 r0→X (.tuple #[.slice (OA ro_r0) r0.length (OC ro_r0),.U r1]) [OE 41 ro_r0]):=by
 refine con_enter (c:=bodyOf Tryz.f16) Tryz.func16 rfl (m:=65) rfl rfl rfl ?_
 intro X hX _
 have H:=h
 unfold sr21_Level.f at H
 clear h
 refine c_seq rfl ?_
 refine r_ordb (l:=[0,1,2]) rfl (by kernel_rfl) ?_
 refine s_e rfl rfl (e_box rfl rfl rfl rfl) ?_
 intro b2_
 refine sA rfl ?_
 refine sA rfl ?_
 refine sE rfl ?_
 obtain ⟨j22_,e23_,H⟩:=bind_s H
 refine c_join (β:=Unit) (fun _=>True) (fun _=>[(1,.slice A1 l1.length c1),(2,.I a2),(3,.P b2_),(6,.slice none 0 0),(7,.U 0),(24,.bool j22_)]) (fun _=>[.b b2_ (.cells (cfA p0 p1 p2 p3 p4 p5 p6) 23 (0,0)),.f (KU A1 c1 l1)]) rfl (fun _ _=>?_) (fun J_=>?_)
 ·
  rcases Bool.eq_false_or_eq_true j22_ with h24_ | h24_
  ·
   subst h24_
   replace H:=ite_y rfl H
   refine c_cond1 rfl rfl ?_
   refine c_seq rfl ?_
   refine r_ordb (l:=[0,1]) rfl (by kernel_rfl) ?_
   refine sA rfl ?_
   refine sA rfl ?_
   refine sQ ?_
   refine c_ret rfl ?_
   refine q_then_ret ?_
   refine q_know (φ:=fun _=>True) (fun _=>trivial) ?_
   have hq_0:=Option.some.inj H
   obtain ⟨ee_0,hq_1⟩:=Prod.mk.inj hq_0
   subst ee_0
   subst hq_1
   exact q_ret (vs:=[.slice none 0 0,.U 0]) rfl (.tmp rfl (.tmp rfl .nil)) [0] rfl (by decide) (hX none ORow.nil)
  ·
   subst h24_
   replace H:=ite_n (by decide) H
   refine c_cond0 rfl rfl ?_
   refine kQ rfl ?_
   refine c_seq rfl ?_
   refine r_ordb (l:=[0]) rfl (by kernel_rfl) ?_
   refine sA rfl ?_
   refine sE rfl ?_
   refine r_ordb (l:=[0,1,2,3,4,5]) rfl (by kernel_rfl) ?_
   refine sV rfl (vLA (lfA p0 p1 p2 p3 p4 p5 p6) 0 Tryz.underlying23 SZ23 rfl) ?_
   refine sM rfl ?_
   refine sM rfl ?_
   refine sR rfl ?_
   obtain ⟨t27_,e28_,H⟩:=bind_s H
   refine s_e rfl rfl (eC [1] #[.agg (cfA p0 p1 p2 p3 p4 p5 p6),.slice A1 l1.length c1,.I 0,.I (IntKind.wrap .i64 (6+a2))] Tryz.func46 (by decide) rfl (fun w ht=>sr21_at_con p0 p1 p2 p3 p4 p5 p6 A1 c1 l1 0 (IntKind.wrap .i64 (6+a2)) t27_ e28_ w _)) ?_
   refine sA rfl ?_
   refine sE rfl ?_
   refine c_block rfl ?_
   refine c_knowT (φ:=fun _=>True) (fun _=>trivial) ?_
   refine c_loop (σ:=Nat × Int × Ro × List Int) (fun (k,x57_,ro54_,xs55_)=>sr21_Level.l0 k p0 p1 p2 p3 p4 p5 p6 l1 a2 x57_ xs55_=some (r0,r1)∧ORow 1 (fun x=>[.U x]) ro54_ xs55_) (fun (k,x57_,ro54_,xs55_)=>k) (fun (k,x57_,ro54_,xs55_)=>[(1,.slice A1 l1.length c1),(2,.I a2),(3,.P b2_),(6,.slice none 0 0),(7,.U 0),(8,.slice (OA ro54_) xs55_.length (OC ro54_)),(9,.U x57_)]) (fun (k,x57_,ro54_,xs55_)=>[.b b2_ (.cells (cfA p0 p1 p2 p3 p4 p5 p6) 23 (0,0)),.f (KU A1 c1 l1),OE 41 ro54_]) (k,t27_,none,([]:List Int)) [1,2,0] rfl ⟨H,ORow.nil⟩ (subF_spec ⟨rfl,rfl,rfl,rfl,rfl,rfl,rfl,trivial⟩) rfl (by decide) ?_
   rintro ⟨k0_,x57_,ro54_,xs55_⟩ hs83_
   clear H
   obtain ⟨H,hr56_⟩:sr21_Level.l0 k0_ p0 p1 p2 p3 p4 p5 p6 l1 a2 x57_ xs55_=some (r0,r1)∧ORow 1 (fun x=>[.U x]) ro54_ xs55_:=hs83_
   try clear hs83_
   rcases k0_ with _ | k0_
   ·exact none_no (show none=_ from H)
   unfold sr21_Level.l0 at H
   have hko_0:k0_≤k0_:=Nat.le_refl _
   refine c_seq rfl ?_
   refine c_seq rfl ?_
   refine r_ordb (l:=[0,1,2,3,4]) rfl (by kernel_rfl) ?_
   refine sM rfl ?_
   refine sV rfl (v_len rfl rfl rfl Tryz.underlying24 rfl rfl) ?_
   refine sV rfl (vF Tryz.underlying23 SZ3 rfl) ?_
   refine sV rfl (vL 0 Tryz.underlying3 rfl) ?_
   refine sR rfl ?_
   refine sQ ?_
   rcases Bool.eq_false_or_eq_true (decide (((xs55_.length:Int):Int)≤p2)) with h87_ | h87_
   ·
    replace H:=ite_y (dec_t h87_) H
    refine cT h87_ rfl ?_
    refine kQ rfl ?_
    refine c_block rfl ?_
    refine c_seq rfl ?_
    refine r_ordb (l:=[0,1,2]) rfl (by kernel_rfl) ?_
    refine sM rfl ?_
    obtain ⟨t91_,e92_,H⟩:=bind_s H
    refine s_e rfl rfl (eC [] #[.U x57_] Tryz.func17 (by decide) rfl (fun w ht=>sr01_Index_con x57_ t91_ e92_ w _)) ?_
    refine sA rfl ?_
    refine sE rfl ?_
    obtain ⟨⟨j112_,j113_,j114_,j115_,j116_,j117_⟩,e118_,H⟩:=bind_s H
    refine c_join (β:=Unit) (fun _=>True) (fun _=>[(1,.slice A1 l1.length c1),(2,.I a2),(3,.P b2_),(6,.slice none 0 0),(7,.U 0),(8,.slice (OA ro54_) xs55_.length (OC ro54_)),(9,.U x57_),(30,.slice (OA ro54_) xs55_.length (OC ro54_)),(31,.I (xs55_.length:Int)),(32,.pointer (some ⟨b2_,2,none⟩)),(33,.I p2),(34,.bool (decide (((xs55_.length:Int):Int)≤p2))),(35,.U x57_),(36,.I t91_),(10,.I t91_),(37,.U x57_),(38,.bool j112_),(39,.bool j113_),(40,.bool j114_),(43,.bool j115_),(44,.bool j116_),(49,.bool j117_)]) (fun _=>[.b b2_ (.cells (cfA p0 p1 p2 p3 p4 p5 p6) 23 (0,0)),.f (KU A1 c1 l1),OE 41 ro54_]) rfl (fun _ _=>?_) (fun J_=>?_)
    ·
     rcases Bool.eq_false_or_eq_true j117_ with h119_ | h119_
     ·
      subst h119_
      replace H:=ite_y rfl H
      refine c_cond1 rfl rfl ?_
      refine c_seq rfl ?_
      refine r_ordb (l:=[0,1,2,3]) rfl (by kernel_rfl) ?_
      refine sM rfl ?_
      refine sM rfl ?_
      refine sA rfl ?_
      refine sA rfl ?_
      refine sQ ?_
      refine c_ret rfl ?_
      refine q_then_ret ?_
      refine q_block_ret ?_
      refine q_then_ret ?_
      refine q_block_ret ?_
      refine q_then_ret ?_
      have hq_0:=Option.some.inj H
      obtain ⟨ee_0,hq_1⟩:=Prod.mk.inj hq_0
      subst ee_0
      subst hq_1
      exact q_ret (vs:=[.slice (OA ro54_) xs55_.length (OC ro54_),.U x57_]) rfl (.tmp rfl (.tmp rfl .nil)) [2] rfl (by decide) (hX ro54_ hr56_)
     ·
      subst h119_
      replace H:=ite_n (by decide) H
      refine c_cond0 rfl rfl ?_
      refine kQ rfl ?_
      refine c_seq rfl ?_
      refine r_ordb (l:=[0,1,2,3,4,5]) rfl (by kernel_rfl) ?_
      refine sM rfl ?_
      refine sM rfl ?_
      obtain ⟨t127_,e128_,H⟩:=bind_s H
      refine s_e rfl rfl (eC [] #[.U x57_] Tryz.func53 (by decide) rfl (fun w ht=>sr01_Plain_con x57_ t127_ e128_ w _)) ?_
      refine s_e rfl rfl (e_bslice #[.U t127_] (.U 0) rfl rfl rfl Tryz.underlying24 SZ41 ZR41 (by decide) rfl (by kernel_rfl)) ?_
      intro b129_
      obtain ⟨n130_,H⟩:=ite_no H
      refine s_e rfl rfl (e_appO (enc:=(fun x=>[.U x])) (v:=t127_) (xs:=xs55_) (ro:=ro54_) (z:=(.U 0)) (m:=1) (bytes:=8) (i:=0) (j:=3) rfl rfl rfl rfl rfl rfl Tryz.underlying24 (by kernel_rfl) rfl (by decide) rfl rfl hr56_ rfl rfl rfl rfl (by simp [Value.oneCell']) (by omega) (by simp only [maxLen]; omega)) ?_
      intro ro131_ hr132_ sm133_
      refine sA rfl ?_
      refine sQ ?_
      refine r_ordb (l:=[0,1,2,3,4,5,6]) rfl (by kernel_rfl) ?_
      refine sV rfl (vLA (lfA p0 p1 p2 p3 p4 p5 p6) 1 Tryz.underlying23 SZ23 rfl) ?_
      refine sM rfl ?_
      refine sM rfl ?_
      refine sM rfl ?_
      refine sR rfl ?_
      obtain ⟨t134_,e135_,H⟩:=bind_s H
      refine s_e rfl rfl (eC [2] #[.agg (cfA p0 p1 p2 p3 p4 p5 p6),.slice A1 l1.length c1,.I t91_,.I (IntKind.wrap .i64 (6+a2))] Tryz.func46 (by decide) rfl (fun w ht=>sr21_at_con p0 p1 p2 p3 p4 p5 p6 A1 c1 l1 t91_ (IntKind.wrap .i64 (6+a2)) t134_ e135_ w _)) ?_
      refine sA rfl ?_
      refine s_end ?_
      refine q_block ?_
      exact q_again (k0_,t134_,ro131_,(xs55_ ++ [t127_])) [1,2,3] ⟨H,hr132_⟩ (Nat.lt_succ_of_le hko_0) (subF_spec ⟨rfl,rfl,rfl,rfl,rfl,rfl,rfl,trivial⟩) rfl (by decide)
    ·
     clear H
     have H:=e118_
     clear e118_
     refine r_ordb (l:=[0,1,2,3,4,5,6,7,8,9,10,11,12]) rfl (by kernel_rfl) ?_
     refine sM rfl ?_
     obtain ⟨t136_,e137_,H⟩:=bind_s H
     refine s_e rfl rfl (eC [] #[.U x57_] Tryz.func52 (by decide) rfl (fun w ht=>sr01_Valid_con x57_ t136_ e137_ w _)) ?_
     refine sV rfl (v_not rfl rfl) ?_
     refine sM rfl ?_
     rcases Bool.eq_false_or_eq_true (!t136_) with h138_ | h138_
     ·
      replace H:=ite_n (not_t (bnot_t h138_)) H
      refine s_splitv (d:=40) (t:=!t136_) rfl (fun _=>?_) (fun h139_=>absurd (h139_.symm.trans h138_) (by decide))
      refine sN rfl ?_
      refine sN rfl ?_
      refine sP rfl ?_
      refine sM rfl ?_
      refine sN rfl ?_
      refine sN rfl ?_
      refine sN rfl ?_
      refine sN rfl ?_
      refine sP rfl ?_
      refine s_end ?_
      have hq_0:=Option.some.inj H
      obtain ⟨ee_0,hq_1⟩:=Prod.mk.inj hq_0
      obtain ⟨ee_1,hq_2⟩:=Prod.mk.inj hq_1
      obtain ⟨ee_2,hq_3⟩:=Prod.mk.inj hq_2
      obtain ⟨ee_3,hq_4⟩:=Prod.mk.inj hq_3
      obtain ⟨ee_4,hq_5⟩:=Prod.mk.inj hq_4
      subst ee_0
      subst ee_1
      subst ee_2
      subst ee_3
      subst ee_4
      subst hq_5
      exact q_seq (c_frame (subF_spec (by exact ⟨rfl,rfl,rfl,rfl,rfl,rfl,rfl,rfl,rfl,rfl,rfl,rfl,rfl,rfl,rfl,rfl,rfl,rfl,rfl,rfl,rfl,rfl,trivial⟩)) (c_take [0,1,2] rfl (by decide) (J_ () trivial)))
     ·
      replace H:=ite_y (bnot_f h138_) H
      refine s_splitv (d:=40) (t:=!t136_) rfl (fun h140_=>absurd (h140_.symm.trans h138_) (by decide)) (fun _=>?_)
      refine sG rfl (vM rfl) ?_
      refine sG rfl (vR rfl) ?_
      refine sP rfl ?_
      refine sM rfl ?_
      rcases Bool.eq_false_or_eq_true (decide ((t91_:Int)<1)) with h141_ | h141_
      ·
       replace H:=ite_y (dec_t h141_) H
       refine s_splitv (d:=44) (t:=decide ((t91_:Int)<1)) rfl (fun _=>?_) (fun h142_=>absurd (h142_.symm.trans h141_) (by decide))
       refine sN rfl ?_
       refine sN rfl ?_
       refine sN rfl ?_
       refine sN rfl ?_
       refine sP rfl ?_
       refine s_end ?_
       have hq_0:=Option.some.inj H
       obtain ⟨ee_0,hq_1⟩:=Prod.mk.inj hq_0
       obtain ⟨ee_1,hq_2⟩:=Prod.mk.inj hq_1
       obtain ⟨ee_2,hq_3⟩:=Prod.mk.inj hq_2
       obtain ⟨ee_3,hq_4⟩:=Prod.mk.inj hq_3
       obtain ⟨ee_4,hq_5⟩:=Prod.mk.inj hq_4
       subst ee_0
       subst ee_1
       subst ee_2
       subst ee_3
       subst ee_4
       subst hq_5
       exact q_seq (c_frame (subF_spec (by exact ⟨rfl,rfl,rfl,rfl,rfl,rfl,rfl,rfl,rfl,rfl,rfl,rfl,rfl,rfl,rfl,rfl,rfl,rfl,rfl,rfl,rfl,rfl,trivial⟩)) (c_take [0,1,2] rfl (by decide) (J_ () trivial)))
      ·
       replace H:=ite_n (dec_f h141_) H
       refine s_splitv (d:=44) (t:=decide ((t91_:Int)<1)) rfl (fun h143_=>absurd (h143_.symm.trans h141_) (by decide)) (fun _=>?_)
       refine sG rfl (vM rfl) ?_
       refine sG rfl (vF Tryz.underlying23 SZ3 rfl) ?_
       refine sG rfl (vL 0 Tryz.underlying3 rfl) ?_
       refine sG rfl (vR rfl) ?_
       refine sP rfl ?_
       refine s_end ?_
       have hq_0:=Option.some.inj H
       obtain ⟨ee_0,hq_1⟩:=Prod.mk.inj hq_0
       obtain ⟨ee_1,hq_2⟩:=Prod.mk.inj hq_1
       obtain ⟨ee_2,hq_3⟩:=Prod.mk.inj hq_2
       obtain ⟨ee_3,hq_4⟩:=Prod.mk.inj hq_3
       obtain ⟨ee_4,hq_5⟩:=Prod.mk.inj hq_4
       subst ee_0
       subst ee_1
       subst ee_2
       subst ee_3
       subst ee_4
       subst hq_5
       exact q_seq (c_frame (subF_spec (by exact ⟨rfl,rfl,rfl,rfl,rfl,rfl,rfl,rfl,rfl,rfl,rfl,rfl,rfl,rfl,rfl,rfl,rfl,rfl,rfl,rfl,rfl,rfl,trivial⟩)) (c_take [0,1,2] rfl (by decide) (J_ () trivial)))
   ·
    replace H:=ite_n (dec_f h87_) H
    refine cF h87_ rfl ?_
    refine c_exit (i:=0) rfl rfl ?_
    refine q_then_exit ?_
    refine q_then_exit ?_
    refine q_block_here rfl ?_
    refine q_seq ?_
    refine c_seq rfl ?_
    refine r_ordb (l:=[0,1,2,3]) rfl (by kernel_rfl) ?_
    refine sM rfl ?_
    refine sM rfl ?_
    refine sA rfl ?_
    refine sA rfl ?_
    refine sQ ?_
    refine c_ret rfl ?_
    have hq_0:=Option.some.inj H
    obtain ⟨ee_0,hq_1⟩:=Prod.mk.inj hq_0
    subst ee_0
    subst hq_1
    exact q_ret (vs:=[.slice (OA ro54_) xs55_.length (OC ro54_),.U x57_]) rfl (.tmp rfl (.tmp rfl .nil)) [2] rfl (by decide) (hX ro54_ hr56_)
 ·
  clear H
  have H:=e23_
  clear e23_
  refine r_ordb (l:=[0,1,2,3,4,5,6,7,8,9,10,11,12,13]) rfl (by kernel_rfl) ?_
  refine sV rfl (vLA (lfA p0 p1 p2 p3 p4 p5 p6) 0 Tryz.underlying23 SZ23 rfl) ?_
  refine sM rfl ?_
  obtain ⟨t145_,e146_,H⟩:=bind_s H
  refine s_e rfl rfl (eC [1] #[.agg (cfA p0 p1 p2 p3 p4 p5 p6),.slice A1 l1.length c1] Tryz.func51 (by decide) rfl (fun w ht=>sr21_whole_con p0 p1 p2 p3 p4 p5 p6 A1 c1 l1 t145_ e146_ w _)) ?_
  refine sV rfl (v_not rfl rfl) ?_
  refine sM rfl ?_
  rcases Bool.eq_false_or_eq_true (!t145_) with h147_ | h147_
  ·
   replace H:=ite_n (not_t (bnot_t h147_)) H
   refine s_splitv (d:=15) (t:=!t145_) rfl (fun _=>?_) (fun h148_=>absurd (h148_.symm.trans h147_) (by decide))
   refine sN rfl ?_
   refine sN rfl ?_
   refine sP rfl ?_
   refine sM rfl ?_
   refine sN rfl ?_
   refine sN rfl ?_
   refine sN rfl ?_
   refine sN rfl ?_
   refine sP rfl ?_
   refine s_end ?_
   have hq_0:=Option.some.inj H
   subst hq_0
   exact q_seq (c_frame (subF_spec (by exact ⟨rfl,rfl,rfl,rfl,rfl,rfl,trivial⟩)) (c_take [0,1] rfl (by decide) (J_ () trivial)))
  ·
   replace H:=ite_y (bnot_f h147_) H
   refine s_splitv (d:=15) (t:=!t145_) rfl (fun h149_=>absurd (h149_.symm.trans h147_) (by decide)) (fun _=>?_)
   refine sG rfl (vM rfl) ?_
   refine sG rfl (vR rfl) ?_
   refine sP rfl ?_
   refine sM rfl ?_
   rcases Bool.eq_false_or_eq_true (decide ((a2:Int)<0)) with h150_ | h150_
   ·
    replace H:=ite_y (dec_t h150_) H
    refine s_splitv (d:=19) (t:=decide ((a2:Int)<0)) rfl (fun _=>?_) (fun h151_=>absurd (h151_.symm.trans h150_) (by decide))
    refine sN rfl ?_
    refine sN rfl ?_
    refine sN rfl ?_
    refine sN rfl ?_
    refine sP rfl ?_
    refine s_end ?_
    have hq_0:=Option.some.inj H
    subst hq_0
    exact q_seq (c_frame (subF_spec (by exact ⟨rfl,rfl,rfl,rfl,rfl,rfl,trivial⟩)) (c_take [0,1] rfl (by decide) (J_ () trivial)))
   ·
    replace H:=ite_n (dec_f h150_) H
    refine s_splitv (d:=19) (t:=decide ((a2:Int)<0)) rfl (fun h152_=>absurd (h152_.symm.trans h150_) (by decide)) (fun _=>?_)
    refine sG rfl (vM rfl) ?_
    refine sG rfl (vF Tryz.underlying23 SZ3 rfl) ?_
    refine sG rfl (vL 0 Tryz.underlying3 rfl) ?_
    refine sG rfl (vR rfl) ?_
    refine sP rfl ?_
    refine s_end ?_
    have hq_0:=Option.some.inj H
    subst hq_0
    exact q_seq (c_frame (subF_spec (by exact ⟨rfl,rfl,rfl,rfl,rfl,rfl,trivial⟩)) (c_take [0,1] rfl (by decide) (J_ () trivial)))
theorem sr21_Level_con (k:Nat) (p0:Int) (p1:Int) (p2:Int) (p3:Int) (p4:Int) (p5:Int) (p6:Int) (A1:Option Addr) (c1:Nat) (l1:List Int) (a2:Int) (r0:List Int) (r1:Int) (h:sr21_Level.f k p0 p1 p2 p3 p4 p5 p6 l1 a2=some (r0,r1)) (w0:World) (Hs:List Nat):Con Tryz.prog 16 #[.agg (cfA p0 p1 p2 p3 p4 p5 p6),.slice A1 l1.length c1,.I a2] w0 Hs [.f (KU A1 c1 l1)] (fun X=>∀ A_r0 c_r0,X (.tuple #[.slice A_r0 r0.length c_r0,.U r1]) [.f (KU A_r0 c_r0 r0)]) :=
 con_own (D:=Kd.int .u64) (flat_int .u64) (fun A c => .tuple #[.slice A r0.length c,.U r1]) rfl (sr21_Level_own k p0 p1 p2 p3 p4 p5 p6 A1 c1 l1 a2 r0 r1 h w0 Hs)
end Go.Eng
namespace Go.Eng
open Go.Proofs Go.RowKit Go.Proofs.YtgbcnokeaaabfaaGreatW.PrintWords
set_option linter.unusedVariables false
set_option linter.unusedSimpArgs false
def sr21_marked.f (p0:Int) (p1:Int) (p2:Int) (p3:Int) (p4:Int) (p5:Int) (p6:Int) (l1:List Int) (a2:Int) (a3:Int):Option Bool:=(sr21_at.f p0 p1 p2 p3 p4 p5 p6 l1 a2 (IntKind.wrap .i64 (6+a3))).bind fun t7_=>(sr01_Marked.f t7_).bind fun t9_=>some t9_
set_option maxRecDepth 100000 in
set_option maxHeartbeats 4000000 in
theorem sr21_marked_con (p0:Int) (p1:Int) (p2:Int) (p3:Int) (p4:Int) (p5:Int) (p6:Int) (A1:Option Addr) (c1:Nat) (l1:List Int) (a2:Int) (a3:Int) (r0:Bool) (h:sr21_marked.f p0 p1 p2 p3 p4 p5 p6 l1 a2 a3=some r0) (w0:World) (Hs:List Nat):Con Tryz.prog 91 #[.agg (cfA p0 p1 p2 p3 p4 p5 p6),.slice A1 l1.length c1,.I a2,.I a3] w0 Hs [.f (KU A1 c1 l1)] (fun X=>X (.bool r0) []):=by
 refine con_enter (c:=bodyOf Tryz.f91) Tryz.func91 rfl (m:=16) rfl rfl rfl ?_
 intro X hX _
 have H:=h
 unfold sr21_marked.f at H
 clear h
 refine c_seq rfl ?_
 refine r_ordb (l:=[0,1]) rfl (by kernel_rfl) ?_
 refine s_e rfl rfl (e_box rfl rfl rfl rfl) ?_
 intro b2_
 refine sA rfl ?_
 refine sE rfl ?_
 refine r_ordb (l:=[0,1,2,3,4,5,6,7]) rfl (by kernel_rfl) ?_
 refine sV rfl (vLA (lfA p0 p1 p2 p3 p4 p5 p6) 0 Tryz.underlying23 SZ23 rfl) ?_
 refine sM rfl ?_
 refine sM rfl ?_
 refine sM rfl ?_
 refine sR rfl ?_
 obtain ⟨t7_,e8_,H⟩:=bind_s H
 refine s_e rfl rfl (eC [1] #[.agg (cfA p0 p1 p2 p3 p4 p5 p6),.slice A1 l1.length c1,.I a2,.I (IntKind.wrap .i64 (6+a3))] Tryz.func46 (by decide) rfl (fun w ht=>sr21_at_con p0 p1 p2 p3 p4 p5 p6 A1 c1 l1 a2 (IntKind.wrap .i64 (6+a3)) t7_ e8_ w _)) ?_
 obtain ⟨t9_,e10_,H⟩:=bind_s H
 refine s_e rfl rfl (eC [] #[.U t7_] Tryz.func94 (by decide) rfl (fun w ht=>sr01_Marked_con t7_ t9_ e10_ w _)) ?_
 refine sA rfl ?_
 refine sQ ?_
 refine c_ret rfl ?_
 have e_:=Option.some.inj H
 subst e_
 exact q_ret (vs:=[.bool t9_]) rfl (.tmp rfl .nil) [] rfl (by decide) (hX)
def sr01_Gen.f (a0:Int):Option Int:=some (IntKind.wrap .i64 (Int.tmod (IntKind.wrap .u64 (Int.tdiv a0 4294967296)) 1073741824))
set_option maxRecDepth 100000 in
set_option maxHeartbeats 4000000 in
theorem sr01_Gen_con (a0:Int) (r0:Int) (h:sr01_Gen.f a0=some r0) (w0:World) (Hs:List Nat):Con Tryz.prog 19 #[.U a0] w0 Hs [] (fun X=>X (.I r0) []):=by
 refine con_enter (c:=bodyOf Tryz.f19) Tryz.func19 rfl (m:=7) rfl rfl rfl ?_
 intro X hX _
 have H:=h
 unfold sr01_Gen.f at H
 clear h
 refine c_seq rfl ?_
 refine r_ordb (l:=[0]) rfl (by kernel_rfl) ?_
 refine sA rfl ?_
 refine sE rfl ?_
 refine r_ordb (l:=[0,1,2,3,4]) rfl (by kernel_rfl) ?_
 refine sM rfl ?_
 refine sV rfl (v_div rfl rfl rfl (by decide)) ?_
 refine sV rfl (v_rem rfl rfl rfl (by decide)) ?_
 refine sV rfl (v_conv rfl Tryz.underlying41 Tryz.underlying3 rfl) ?_
 refine sA rfl ?_
 refine sQ ?_
 refine c_ret rfl ?_
 have e_:=Option.some.inj H
 subst e_
 exact q_ret (vs:=[.I (IntKind.wrap .i64 (Int.tmod (IntKind.wrap .u64 (Int.tdiv a0 4294967296)) 1073741824))]) rfl (.tmp rfl .nil) [] rfl (by decide) (hX)
def sr21_in.l0:Nat→List Int→Int→Int→Option Bool
 | 0,_,_,_=>none
 | k+1,l0,a1,x7_=>(if (x7_:Int)<(l0.length:Int) then (if 0≤(x7_:Int) then (if (rd l0 x7_:Int)=a1 then some true else sr21_in.l0 k l0 a1 (IntKind.wrap .i64 (x7_+1))) else none) else some false)
def sr21_in.f (k:Nat) (l0:List Int) (a1:Int):Option Bool:=sr21_in.l0 k l0 a1 0
set_option maxRecDepth 100000 in
set_option maxHeartbeats 4000000 in
theorem sr21_in_con (k:Nat) (A0:Option Addr) (c0:Nat) (l0:List Int) (a1:Int) (r0:Bool) (h:sr21_in.f k l0 a1=some r0) (w0:World) (Hs:List Nat):Con Tryz.prog 93 #[.slice A0 l0.length c0,.U a1] w0 Hs [.f (KU A0 c0 l0)] (fun X=>X (.bool r0) []):=by
 refine con_enter (c:=bodyOf Tryz.f93) Tryz.func93 rfl (m:=18) rfl rfl rfl ?_
 intro X hX _
 have H:=h
 unfold sr21_in.f at H
 clear h
 refine c_seq rfl ?_
 refine r_ordb (l:=[0]) rfl (by kernel_rfl) ?_
 refine sA rfl ?_
 refine sE rfl ?_
 refine c_seq rfl ?_
 refine r_ordb (l:=[0]) rfl (by kernel_rfl) ?_
 refine sA rfl ?_
 refine sQ ?_
 refine c_block rfl ?_
 refine c_loop (σ:=Nat × Int) (fun (k,x7_)=>sr21_in.l0 k l0 a1 x7_=some r0) (fun (k,x7_)=>k) (fun (k,x7_)=>[(0,.slice A0 l0.length c0),(1,.U a1),(4,.bool false),(5,.I x7_)]) (fun (k,x7_)=>[.f (KU A0 c0 l0)]) (k,0) [0] rfl H (subF_spec ⟨rfl,rfl,rfl,rfl,trivial⟩) rfl (by decide) ?_
 rintro ⟨k0_,x7_⟩ hs15_
 clear H
 have H:sr21_in.l0 k0_ l0 a1 x7_=some r0:=hs15_
 try clear hs15_
 rcases k0_ with _ | k0_
 ·exact none_no (show none=_ from H)
 unfold sr21_in.l0 at H
 have hko_0:k0_≤k0_:=Nat.le_refl _
 refine c_seq rfl ?_
 refine c_seq rfl ?_
 refine r_ordb (l:=[0,1,2,3]) rfl (by kernel_rfl) ?_
 refine sM rfl ?_
 refine sM rfl ?_
 refine sV rfl (v_len rfl rfl rfl Tryz.underlying24 rfl rfl) ?_
 refine sR rfl ?_
 refine sQ ?_
 rcases Bool.eq_false_or_eq_true (decide ((x7_:Int)<(l0.length:Int))) with h19_ | h19_
 ·
  replace H:=ite_y (dec_t h19_) H
  refine cT h19_ rfl ?_
  refine kQ rfl ?_
  refine c_seq rfl ?_
  refine c_block rfl ?_
  refine c_seq rfl ?_
  refine r_ordb (l:=[0,1,2,3,4,5]) rfl (by kernel_rfl) ?_
  refine sM rfl ?_
  refine sM rfl ?_
  obtain ⟨n26_,H⟩:=ite_no H
  refine sV rfl (v_iaK (i:=0) rfl Tryz.underlying24 SZ41 rfl rfl rfl rfl n26_ (dec_t h19_)) ?_
  refine sV rfl (v_ldK (v := .U (rd l0 x7_)) 0 0 rfl Tryz.underlying41 rfl rfl rfl rfl n26_ (dec_t h19_) (fun w K h=>h)) ?_
  refine sM rfl ?_
  refine sR rfl ?_
  refine sQ ?_
  rcases Bool.eq_false_or_eq_true ((rd l0 x7_:Int) == a1) with h27_ | h27_
  ·
   replace H:=ite_y (ibeq_t h27_) H
   refine cT h27_ rfl ?_
   refine c_seq rfl ?_
   refine r_ordb (l:=[0]) rfl (by kernel_rfl) ?_
   refine sA rfl ?_
   refine sQ ?_
   refine c_ret rfl ?_
   refine q_block_ret ?_
   refine q_then_ret ?_
   refine q_then_ret ?_
   refine q_block_ret ?_
   refine q_then_ret ?_
   have e_:=Option.some.inj H
   subst e_
   exact q_ret (vs:=[.bool true]) rfl (.tmp rfl .nil) [] rfl (by decide) (hX)
  ·
   replace H:=ite_n (ibeq_f h27_) H
   refine cF h27_ rfl ?_
   refine c_skip rfl ?_
   refine q_block ?_
   refine q_seq ?_
   refine r_ordb (l:=[0,1,2]) rfl (by kernel_rfl) ?_
   refine sM rfl ?_
   refine sR rfl ?_
   refine sA rfl ?_
   refine s_end ?_
   exact q_again (k0_,IntKind.wrap .i64 (x7_+1)) [0] H (Nat.lt_succ_of_le hko_0) (subF_spec ⟨rfl,rfl,rfl,rfl,trivial⟩) rfl (by decide)
 ·
  replace H:=ite_n (dec_f h19_) H
  refine cF h19_ rfl ?_
  refine c_exit (i:=0) rfl rfl ?_
  refine q_then_exit ?_
  refine q_then_exit ?_
  refine q_block_here rfl ?_
  refine q_seq ?_
  refine c_seq rfl ?_
  refine r_ordb (l:=[0]) rfl (by kernel_rfl) ?_
  refine sA rfl ?_
  refine sQ ?_
  refine c_ret rfl ?_
  have e_:=Option.some.inj H
  subst e_
  exact q_ret (vs:=[.bool false]) rfl (.tmp rfl .nil) [] rfl (by decide) (hX)
def sr02_Dead.f (a0:Int):Option Bool:=some ((Int.tmod a0 2:Int) == 1)
set_option maxRecDepth 100000 in
set_option maxHeartbeats 4000000 in
theorem sr02_Dead_con (a0:Int) (r0:Bool) (h:sr02_Dead.f a0=some r0) (w0:World) (Hs:List Nat):Con Tryz.prog 47 #[.U a0] w0 Hs [] (fun X=>X (.bool r0) []):=by
 refine con_enter (c:=bodyOf Tryz.f47) Tryz.func47 rfl (m:=6) rfl rfl rfl ?_
 intro X hX _
 have H:=h
 unfold sr02_Dead.f at H
 clear h
 refine c_seq rfl ?_
 refine r_ordb (l:=[0]) rfl (by kernel_rfl) ?_
 refine sA rfl ?_
 refine sE rfl ?_
 refine r_ordb (l:=[0,1,2,3]) rfl (by kernel_rfl) ?_
 refine sM rfl ?_
 refine sV rfl (v_rem rfl rfl rfl (by decide)) ?_
 refine sR rfl ?_
 refine sA rfl ?_
 refine sQ ?_
 refine c_ret rfl ?_
 have e_:=Option.some.inj H
 subst e_
 exact q_ret (vs:=[.bool ((Int.tmod a0 2:Int) == 1)]) rfl (.tmp rfl .nil) [] rfl (by decide) (hX)
def sr21_node.l0:Nat→Int→Int→Int→Int→Int→Int→Int→List Int→Int→Int→Int→Option Bool
 | 0,_,_,_,_,_,_,_,_,_,_,_=>none
 | k+1,p0,p1,p2,p3,p4,p5,p6,l1,t5_,t33_,x99_=>(if (x99_:Int)<(IntKind.wrap .i64 t33_) then (sr21_marked.f p0 p1 p2 p3 p4 p5 p6 l1 t5_ x99_).bind fun t121_=>(if t121_=true then sr21_node.l0 k p0 p1 p2 p3 p4 p5 p6 l1 t5_ t33_ (IntKind.wrap .i64 (x99_+1)) else some false) else (sr21_at.f p0 p1 p2 p3 p4 p5 p6 l1 t5_ 2).bind fun t131_=>(sr02_Dead.f t131_).bind fun t133_=>some t133_)
def sr21_node.f (k:Nat) (p0:Int) (p1:Int) (p2:Int) (p3:Int) (p4:Int) (p5:Int) (p6:Int) (l1:List Int) (a2:Int) (a3:Int):Option Bool:=(sr01_Index.f a2).bind fun t5_=>(sr21_at.f p0 p1 p2 p3 p4 p5 p6 l1 t5_ 0).bind fun t22_=>(sr01_Gen.f a2).bind fun t24_=>(sr02_Taken.f t24_).bind fun t26_=>(if (t22_:Int)=t26_ then (sr21_at.f p0 p1 p2 p3 p4 p5 p6 l1 t5_ 4).bind fun t33_=>((if (t33_:Int)≤(IntKind.wrap .u64 a3) then some true else some (decide ((t33_:Int) > (IntKind.wrap .u64 p3)))):Option Bool).bind fun j44_=>(if j44_=true then some false else (sr21_marked.f p0 p1 p2 p3 p4 p5 p6 l1 t5_ a3).bind fun t64_=>(if t64_=true then sr21_node.l0 k p0 p1 p2 p3 p4 p5 p6 l1 t5_ t33_ a3 else (sr21_Level.f k p0 p1 p2 p3 p4 p5 p6 l1 (IntKind.wrap .i64 (a3 - 1))).bind fun (t73_,t74_)=>((if (a3:Int)=0 then some true else (sr21_in.f k t73_ a2).bind fun t88_=>some t88_):Option Bool).bind fun j83_=>some j83_)) else some false)
set_option maxRecDepth 100000 in
set_option maxHeartbeats 4000000 in
theorem sr21_node_con (k:Nat) (p0:Int) (p1:Int) (p2:Int) (p3:Int) (p4:Int) (p5:Int) (p6:Int) (A1:Option Addr) (c1:Nat) (l1:List Int) (a2:Int) (a3:Int) (r0:Bool) (h:sr21_node.f k p0 p1 p2 p3 p4 p5 p6 l1 a2 a3=some r0) (w0:World) (Hs:List Nat):Con Tryz.prog 92 #[.agg (cfA p0 p1 p2 p3 p4 p5 p6),.slice A1 l1.length c1,.U a2,.I a3] w0 Hs [.f (KU A1 c1 l1)] (fun X=>X (.bool r0) []):=by
 refine con_enter (c:=bodyOf Tryz.f92) Tryz.func92 rfl (m:=78) rfl rfl rfl ?_
 intro X hX _
 have H:=h
 unfold sr21_node.f at H
 clear h
 refine c_seq rfl ?_
 refine r_ordb (l:=[0,1]) rfl (by kernel_rfl) ?_
 refine s_e rfl rfl (e_box rfl rfl rfl rfl) ?_
 intro b2_
 refine sA rfl ?_
 refine sE rfl ?_
 refine r_ordb (l:=[0,1,2]) rfl (by kernel_rfl) ?_
 refine sM rfl ?_
 obtain ⟨t5_,e6_,H⟩:=bind_s H
 refine s_e rfl rfl (eC [] #[.U a2] Tryz.func17 (by decide) rfl (fun w ht=>sr01_Index_con a2 t5_ e6_ w _)) ?_
 refine sA rfl ?_
 refine sE rfl ?_
 refine c_seq rfl ?_
 refine r_ordb (l:=[0,1,2,3,4,5,6,7]) rfl (by kernel_rfl) ?_
 refine sV rfl (vLA (lfA p0 p1 p2 p3 p4 p5 p6) 0 Tryz.underlying23 SZ23 rfl) ?_
 refine sM rfl ?_
 refine sM rfl ?_
 obtain ⟨t22_,e23_,H⟩:=bind_s H
 refine s_e rfl rfl (eC [1] #[.agg (cfA p0 p1 p2 p3 p4 p5 p6),.slice A1 l1.length c1,.I t5_,.I 0] Tryz.func46 (by decide) rfl (fun w ht=>sr21_at_con p0 p1 p2 p3 p4 p5 p6 A1 c1 l1 t5_ 0 t22_ e23_ w _)) ?_
 refine sM rfl ?_
 obtain ⟨t24_,e25_,H⟩:=bind_s H
 refine s_e rfl rfl (eC [] #[.U a2] Tryz.func19 (by decide) rfl (fun w ht=>sr01_Gen_con a2 t24_ e25_ w _)) ?_
 obtain ⟨t26_,e27_,H⟩:=bind_s H
 refine s_e rfl rfl (eC [] #[.I t24_] Tryz.func18 (by decide) rfl (fun w ht=>sr02_Taken_con t24_ t26_ e27_ w _)) ?_
 refine sR rfl ?_
 refine sQ ?_
 rcases Bool.eq_false_or_eq_true ((t22_:Int) != t26_) with h28_ | h28_
 ·
  replace H:=ite_n (ibne_t h28_) H
  refine cT h28_ rfl ?_
  refine c_seq rfl ?_
  refine r_ordb (l:=[0]) rfl (by kernel_rfl) ?_
  refine sA rfl ?_
  refine sQ ?_
  refine c_ret rfl ?_
  refine q_then_ret ?_
  have e_:=Option.some.inj H
  subst e_
  exact q_ret (vs:=[.bool false]) rfl (.tmp rfl .nil) [] rfl (by decide) (hX)
 ·
  replace H:=ite_y (ibne_f h28_) H
  refine cF h28_ rfl ?_
  refine kQ rfl ?_
  refine c_seq rfl ?_
  refine r_ordb (l:=[0,1,2,3,4]) rfl (by kernel_rfl) ?_
  refine sV rfl (vLA (lfA p0 p1 p2 p3 p4 p5 p6) 0 Tryz.underlying23 SZ23 rfl) ?_
  refine sM rfl ?_
  refine sM rfl ?_
  obtain ⟨t33_,e34_,H⟩:=bind_s H
  refine s_e rfl rfl (eC [1] #[.agg (cfA p0 p1 p2 p3 p4 p5 p6),.slice A1 l1.length c1,.I t5_,.I 4] Tryz.func46 (by decide) rfl (fun w ht=>sr21_at_con p0 p1 p2 p3 p4 p5 p6 A1 c1 l1 t5_ 4 t33_ e34_ w _)) ?_
  refine sA rfl ?_
  refine sE rfl ?_
  obtain ⟨j44_,e45_,H⟩:=bind_s H
  refine c_join (β:=Unit) (fun _=>True) (fun _=>[(1,.slice A1 l1.length c1),(2,.U a2),(3,.I a3),(4,.P b2_),(8,.bool false),(9,.I t5_),(10,.U t33_),(38,.bool j44_)]) (fun _=>[.b b2_ (.cells (cfA p0 p1 p2 p3 p4 p5 p6) 23 (0,0)),.f (KU A1 c1 l1)]) rfl (fun _ _=>?_) (fun J_=>?_)
  ·
   rcases Bool.eq_false_or_eq_true j44_ with h46_ | h46_
   ·
    subst h46_
    replace H:=ite_y rfl H
    refine c_cond1 rfl rfl ?_
    refine c_seq rfl ?_
    refine r_ordb (l:=[0]) rfl (by kernel_rfl) ?_
    refine sA rfl ?_
    refine sQ ?_
    refine c_ret rfl ?_
    refine q_then_ret ?_
    have e_:=Option.some.inj H
    subst e_
    exact q_ret (vs:=[.bool false]) rfl (.tmp rfl .nil) [] rfl (by decide) (hX)
   ·
    subst h46_
    replace H:=ite_n (by decide) H
    refine c_cond0 rfl rfl ?_
    refine kQ rfl ?_
    refine c_seq rfl ?_
    refine c_seq rfl ?_
    refine r_ordb (l:=[0,1,2,3,4,5]) rfl (by kernel_rfl) ?_
    refine sV rfl (vLA (lfA p0 p1 p2 p3 p4 p5 p6) 0 Tryz.underlying23 SZ23 rfl) ?_
    refine sM rfl ?_
    refine sM rfl ?_
    refine sM rfl ?_
    obtain ⟨t64_,e65_,H⟩:=bind_s H
    refine s_e rfl rfl (eC [1] #[.agg (cfA p0 p1 p2 p3 p4 p5 p6),.slice A1 l1.length c1,.I t5_,.I a3] Tryz.func91 (by decide) rfl (fun w ht=>sr21_marked_con p0 p1 p2 p3 p4 p5 p6 A1 c1 l1 t5_ a3 t64_ e65_ w _)) ?_
    refine sV rfl (v_not rfl rfl) ?_
    refine sQ ?_
    rcases Bool.eq_false_or_eq_true (!t64_) with h66_ | h66_
    ·
     replace H:=ite_n (not_t (bnot_t h66_)) H
     refine cT h66_ rfl ?_
     refine c_seq rfl ?_
     refine r_ordb (l:=[0,1,2,3,4,5,6,7,8,9]) rfl (by kernel_rfl) ?_
     refine sV rfl (vLA (lfA p0 p1 p2 p3 p4 p5 p6) 0 Tryz.underlying23 SZ23 rfl) ?_
     refine sM rfl ?_
     refine sM rfl ?_
     refine sR rfl ?_
     obtain ⟨⟨t73_,t74_⟩,e75_,H⟩:=bind_s H
     refine s_e rfl rfl (eC [1] #[.agg (cfA p0 p1 p2 p3 p4 p5 p6),.slice A1 l1.length c1,.I (IntKind.wrap .i64 (a3 - 1))] Tryz.func16 (by decide) rfl (fun w ht=>sr21_Level_con _ p0 p1 p2 p3 p4 p5 p6 A1 c1 l1 (IntKind.wrap .i64 (a3 - 1)) t73_ t74_ e75_ w _)) ?_
     intro A76_ c77_
     refine sM rfl ?_
     refine sV rfl (v_ext rfl rfl rfl) ?_
     refine sV rfl (v_ext rfl rfl rfl) ?_
     refine sA rfl ?_
     refine sA rfl ?_
     refine sQ ?_
     obtain ⟨j83_,e84_,H⟩:=bind_s H
     refine c_join (β:=Unit) (fun _=>True) (fun _=>[(1,.slice A1 l1.length c1),(3,.I a3),(4,.P b2_),(8,.bool j83_),(9,.I t5_),(10,.U t33_)]) (fun _=>[.f (KU A76_ c77_ t73_),.b b2_ (.cells (cfA p0 p1 p2 p3 p4 p5 p6) 23 (0,0)),.f (KU A1 c1 l1)]) rfl (fun _ _=>?_) (fun J_=>?_)
     ·
      refine c_ret rfl ?_
      refine q_then_ret ?_
      have e_:=Option.some.inj H
      subst e_
      exact q_ret (vs:=[.bool j83_]) rfl (.tmp rfl .nil) [] rfl (by decide) (hX)
     ·
      clear H
      have H:=e84_
      clear e84_
      refine r_ordb (l:=[0,1,2,3,4,5,6,7]) rfl (by kernel_rfl) ?_
      refine sM rfl ?_
      refine sR rfl ?_
      refine sM rfl ?_
      rcases Bool.eq_false_or_eq_true ((a3:Int) == 0) with h85_ | h85_
      ·
       replace H:=ite_y (ibeq_t h85_) H
       refine s_splitv (d:=55) (t:=(a3:Int) == 0) rfl (fun _=>?_) (fun h86_=>absurd (h86_.symm.trans h85_) (by decide))
       refine sN rfl ?_
       refine sN rfl ?_
       refine sN rfl ?_
       refine sP rfl ?_
       refine sA rfl ?_
       refine s_end ?_
       have hq_0:=Option.some.inj H
       subst hq_0
       exact q_seq (c_frame (subF_spec (by exact ⟨rfl,rfl,rfl,rfl,rfl,rfl,trivial⟩)) (c_take [0,1,2] rfl (by decide) (J_ () trivial)))
      ·
       replace H:=ite_n (ibeq_f h85_) H
       refine s_splitv (d:=55) (t:=(a3:Int) == 0) rfl (fun h87_=>absurd (h87_.symm.trans h85_) (by decide)) (fun _=>?_)
       refine sG rfl (vM rfl) ?_
       refine sG rfl (vM rfl) ?_
       obtain ⟨t88_,e89_,H⟩:=bind_s H
       refine s_eg rfl rfl (eC [0] #[.slice A76_ t73_.length c77_,.U a2] Tryz.func93 (by decide) rfl (fun w ht=>sr21_in_con _ A76_ c77_ t73_ a2 t88_ e89_ w _)) ?_
       refine sP rfl ?_
       refine sA rfl ?_
       refine s_end ?_
       have hq_0:=Option.some.inj H
       subst hq_0
       exact q_seq (c_frame (subF_spec (by exact ⟨rfl,rfl,rfl,rfl,rfl,rfl,trivial⟩)) (c_take [0,1,2] rfl (by decide) (J_ () trivial)))
    ·
     replace H:=ite_y (bnot_f h66_) H
     refine cF h66_ rfl ?_
     refine kQ rfl ?_
     refine c_seq rfl ?_
     refine c_seq rfl ?_
     refine r_ordb (l:=[0,1]) rfl (by kernel_rfl) ?_
     refine sM rfl ?_
     refine sA rfl ?_
     refine sQ ?_
     refine c_block rfl ?_
     refine c_loop (σ:=Nat × Int) (fun (k,x99_)=>sr21_node.l0 k p0 p1 p2 p3 p4 p5 p6 l1 t5_ t33_ x99_=some r0) (fun (k,x99_)=>k) (fun (k,x99_)=>[(1,.slice A1 l1.length c1),(4,.P b2_),(8,.bool false),(9,.I t5_),(10,.U t33_),(13,.I x99_)]) (fun (k,x99_)=>[.b b2_ (.cells (cfA p0 p1 p2 p3 p4 p5 p6) 23 (0,0)),.f (KU A1 c1 l1)]) (k,a3) [0,1] rfl H (subF_spec ⟨rfl,rfl,rfl,rfl,rfl,rfl,trivial⟩) rfl (by decide) ?_
     rintro ⟨k0_,x99_⟩ hs108_
     clear H
     have H:sr21_node.l0 k0_ p0 p1 p2 p3 p4 p5 p6 l1 t5_ t33_ x99_=some r0:=hs108_
     try clear hs108_
     rcases k0_ with _ | k0_
     ·exact none_no (show none=_ from H)
     unfold sr21_node.l0 at H
     have hko_0:k0_≤k0_:=Nat.le_refl _
     refine c_seq rfl ?_
     refine c_seq rfl ?_
     refine r_ordb (l:=[0,1,2,3]) rfl (by kernel_rfl) ?_
     refine sM rfl ?_
     refine sM rfl ?_
     refine sV rfl (v_conv rfl Tryz.underlying41 Tryz.underlying3 rfl) ?_
     refine sR rfl ?_
     refine sQ ?_
     rcases Bool.eq_false_or_eq_true (decide ((x99_:Int)<(IntKind.wrap .i64 t33_))) with h112_ | h112_
     ·
      replace H:=ite_y (dec_t h112_) H
      refine cT h112_ rfl ?_
      refine kQ rfl ?_
      refine c_seq rfl ?_
      refine c_block rfl ?_
      refine c_seq rfl ?_
      refine r_ordb (l:=[0,1,2,3,4,5]) rfl (by kernel_rfl) ?_
      refine sV rfl (vLA (lfA p0 p1 p2 p3 p4 p5 p6) 0 Tryz.underlying23 SZ23 rfl) ?_
      refine sM rfl ?_
      refine sM rfl ?_
      refine sM rfl ?_
      obtain ⟨t121_,e122_,H⟩:=bind_s H
      refine s_e rfl rfl (eC [1] #[.agg (cfA p0 p1 p2 p3 p4 p5 p6),.slice A1 l1.length c1,.I t5_,.I x99_] Tryz.func91 (by decide) rfl (fun w ht=>sr21_marked_con p0 p1 p2 p3 p4 p5 p6 A1 c1 l1 t5_ x99_ t121_ e122_ w _)) ?_
      refine sV rfl (v_not rfl rfl) ?_
      refine sQ ?_
      rcases Bool.eq_false_or_eq_true (!t121_) with h123_ | h123_
      ·
       replace H:=ite_n (not_t (bnot_t h123_)) H
       refine cT h123_ rfl ?_
       refine c_seq rfl ?_
       refine r_ordb (l:=[0]) rfl (by kernel_rfl) ?_
       refine sA rfl ?_
       refine sQ ?_
       refine c_ret rfl ?_
       refine q_block_ret ?_
       refine q_then_ret ?_
       refine q_then_ret ?_
       refine q_block_ret ?_
       refine q_then_ret ?_
       have e_:=Option.some.inj H
       subst e_
       exact q_ret (vs:=[.bool false]) rfl (.tmp rfl .nil) [] rfl (by decide) (hX)
      ·
       replace H:=ite_y (bnot_f h123_) H
       refine cF h123_ rfl ?_
       refine c_skip rfl ?_
       refine q_block ?_
       refine q_seq ?_
       refine r_ordb (l:=[0,1,2]) rfl (by kernel_rfl) ?_
       refine sM rfl ?_
       refine sR rfl ?_
       refine sA rfl ?_
       refine s_end ?_
       exact q_again (k0_,IntKind.wrap .i64 (x99_+1)) [0,1] H (Nat.lt_succ_of_le hko_0) (subF_spec ⟨rfl,rfl,rfl,rfl,rfl,rfl,trivial⟩) rfl (by decide)
     ·
      replace H:=ite_n (dec_f h112_) H
      refine cF h112_ rfl ?_
      refine c_exit (i:=0) rfl rfl ?_
      refine q_then_exit ?_
      refine q_then_exit ?_
      refine q_block_here rfl ?_
      refine q_seq ?_
      refine c_seq rfl ?_
      refine r_ordb (l:=[0,1,2,3,4,5]) rfl (by kernel_rfl) ?_
      refine sV rfl (vLA (lfA p0 p1 p2 p3 p4 p5 p6) 0 Tryz.underlying23 SZ23 rfl) ?_
      refine sM rfl ?_
      refine sM rfl ?_
      obtain ⟨t131_,e132_,H⟩:=bind_s H
      refine s_e rfl rfl (eC [1] #[.agg (cfA p0 p1 p2 p3 p4 p5 p6),.slice A1 l1.length c1,.I t5_,.I 2] Tryz.func46 (by decide) rfl (fun w ht=>sr21_at_con p0 p1 p2 p3 p4 p5 p6 A1 c1 l1 t5_ 2 t131_ e132_ w _)) ?_
      obtain ⟨t133_,e134_,H⟩:=bind_s H
      refine s_e rfl rfl (eC [] #[.U t131_] Tryz.func47 (by decide) rfl (fun w ht=>sr02_Dead_con t131_ t133_ e134_ w _)) ?_
      refine sA rfl ?_
      refine sQ ?_
      refine c_ret rfl ?_
      have e_:=Option.some.inj H
      subst e_
      exact q_ret (vs:=[.bool t133_]) rfl (.tmp rfl .nil) [] rfl (by decide) (hX)
  ·
   clear H
   have H:=e45_
   clear e45_
   refine r_ordb (l:=[0,1,2,3,4,5,6,7,8,9,10]) rfl (by kernel_rfl) ?_
   refine sM rfl ?_
   refine sM rfl ?_
   refine sV rfl (v_conv rfl Tryz.underlying3 Tryz.underlying41 rfl) ?_
   refine sR rfl ?_
   refine sM rfl ?_
   rcases Bool.eq_false_or_eq_true (decide ((t33_:Int)≤(IntKind.wrap .u64 a3))) with h135_ | h135_
   ·
    replace H:=ite_y (dec_t h135_) H
    refine s_splitv (d:=32) (t:=decide ((t33_:Int)≤(IntKind.wrap .u64 a3))) rfl (fun _=>?_) (fun h136_=>absurd (h136_.symm.trans h135_) (by decide))
    refine sN rfl ?_
    refine sN rfl ?_
    refine sN rfl ?_
    refine sN rfl ?_
    refine sN rfl ?_
    refine sP rfl ?_
    refine s_end ?_
    have hq_0:=Option.some.inj H
    subst hq_0
    exact q_seq (c_frame (subF_spec (by exact ⟨rfl,rfl,rfl,rfl,rfl,rfl,rfl,rfl,trivial⟩)) (c_take [0,1] rfl (by decide) (J_ () trivial)))
   ·
    replace H:=ite_n (dec_f h135_) H
    refine s_splitv (d:=32) (t:=decide ((t33_:Int)≤(IntKind.wrap .u64 a3))) rfl (fun h137_=>absurd (h137_.symm.trans h135_) (by decide)) (fun _=>?_)
    refine sG rfl (vM rfl) ?_
    refine sG rfl (vF Tryz.underlying23 SZ3 rfl) ?_
    refine sG rfl (vL 0 Tryz.underlying3 rfl) ?_
    refine sG rfl (v_conv rfl Tryz.underlying3 Tryz.underlying41 rfl) ?_
    refine sG rfl (vR rfl) ?_
    refine sP rfl ?_
    refine s_end ?_
    have hq_0:=Option.some.inj H
    subst hq_0
    exact q_seq (c_frame (subF_spec (by exact ⟨rfl,rfl,rfl,rfl,rfl,rfl,rfl,rfl,trivial⟩)) (c_take [0,1] rfl (by decide) (J_ () trivial)))
mutual
def sr21_Right.l1:Nat→Int→Int→Int→Int→Int→Int→Int→List Int→Int→List Int→Int→Option Bool
 | 0,_,_,_,_,_,_,_,_,_,_,_=>none
 | k+1,p0,p1,p2,p3,p4,p5,p6,l1,x100_,t185_,x222_=>(if (x222_:Int)<(t185_.length:Int) then (if 0≤(x222_:Int) then (sr21_node.f k p0 p1 p2 p3 p4 p5 p6 l1 (rd t185_ x222_) x100_).bind fun t282_=>(if t282_=true then ((if (x222_:Int) > 0 then (if 0≤(IntKind.wrap .i64 (x222_ - 1):Int) then (if (IntKind.wrap .i64 (x222_ - 1):Int)<(t185_.length:Int) then (sr01_Index.f (rd t185_ (IntKind.wrap .i64 (x222_ - 1)))).bind fun t306_=>(sr21_at.f p0 p1 p2 p3 p4 p5 p6 l1 t306_ 1).bind fun t308_=>(sr01_Index.f (rd t185_ x222_)).bind fun t310_=>(sr21_at.f p0 p1 p2 p3 p4 p5 p6 l1 t310_ 1).bind fun t312_=>some (true,true,decide ((t308_:Int)≥t312_)) else none) else none) else some (false,false,false)):Option (Bool × Bool × Bool)).bind fun (j298_,j299_,j300_)=>(if j300_=true then some false else sr21_Right.l1 k p0 p1 p2 p3 p4 p5 p6 l1 x100_ t185_ (IntKind.wrap .i64 (x222_+1))) else some false) else none) else sr21_Right.l0 k p0 p1 p2 p3 p4 p5 p6 l1 (IntKind.wrap .i64 (x100_+1)))
def sr21_Right.l0:Nat→Int→Int→Int→Int→Int→Int→Int→List Int→Int→Option Bool
 | 0,_,_,_,_,_,_,_,_,_=>none
 | k+1,p0,p1,p2,p3,p4,p5,p6,l1,x100_=>(if (x100_:Int)<p3 then (sr21_Level.f k p0 p1 p2 p3 p4 p5 p6 l1 x100_).bind fun (t185_,t186_)=>((sr21_marked.f p0 p1 p2 p3 p4 p5 p6 l1 0 x100_).bind fun t315_=>(if t315_=true then some (true,true,true,true,true) else (if ((t185_.length:Int):Int) > p2 then some (false,false,decide (((t185_.length:Int):Int) > p2),true,true) else (sr01_Valid.f t186_).bind fun t321_=>some (false,false,decide (((t185_.length:Int):Int) > p2),false,t321_))):Option (Bool × Bool × Bool × Bool × Bool)).bind fun (j207_,j208_,j209_,j210_,j211_)=>(if j211_=true then some false else sr21_Right.l1 k p0 p1 p2 p3 p4 p5 p6 l1 x100_ t185_ 0) else some true)
end
def sr21_Right.f (k:Nat) (p0:Int) (p1:Int) (p2:Int) (p3:Int) (p4:Int) (p5:Int) (p6:Int) (l1:List Int):Option Bool:=((sr21_whole.f p0 p1 p2 p3 p4 p5 p6 l1).bind fun t324_=>(if t324_=true then (sr21_at.f p0 p1 p2 p3 p4 p5 p6 l1 0 0).bind fun t329_=>(sr02_Taken.f 0).bind fun t331_=>some ((t329_:Int) != t331_) else some true):Option Bool).bind fun j24_=>(if j24_=true then some false else sr21_Right.l0 k p0 p1 p2 p3 p4 p5 p6 l1 0)
set_option maxRecDepth 100000 in
set_option maxHeartbeats 4000000 in
theorem sr21_Right_con (k:Nat) (p0:Int) (p1:Int) (p2:Int) (p3:Int) (p4:Int) (p5:Int) (p6:Int) (A1:Option Addr) (c1:Nat) (l1:List Int) (r0:Bool) (h:sr21_Right.f k p0 p1 p2 p3 p4 p5 p6 l1=some r0) (w0:World) (Hs:List Nat):Con Tryz.prog 42 #[.agg (cfA p0 p1 p2 p3 p4 p5 p6),.slice A1 l1.length c1] w0 Hs [.f (KU A1 c1 l1)] (fun X=>X (.bool r0) []):=by
 refine con_enter (c:=bodyOf Tryz.f42) Tryz.func42 rfl (m:=85) rfl rfl rfl ?_
 intro X hX _
 have H:=h
 unfold sr21_Right.f at H
 clear h
 refine c_seq rfl ?_
 refine r_ordb (l:=[0,1]) rfl (by kernel_rfl) ?_
 refine s_e rfl rfl (e_box rfl rfl rfl rfl) ?_
 intro b2_
 refine sA rfl ?_
 refine sE rfl ?_
 obtain ⟨j24_,e25_,H⟩:=bind_s H
 refine c_join (β:=Unit) (fun _=>True) (fun _=>[(1,.slice A1 l1.length c1),(2,.P b2_),(4,.bool false),(19,.bool j24_)]) (fun _=>[.b b2_ (.cells (cfA p0 p1 p2 p3 p4 p5 p6) 23 (0,0)),.f (KU A1 c1 l1)]) rfl (fun _ _=>?_) (fun J_=>?_)
 ·
  rcases Bool.eq_false_or_eq_true j24_ with h26_ | h26_
  ·
   subst h26_
   replace H:=ite_y rfl H
   refine c_cond1 rfl rfl ?_
   refine c_seq rfl ?_
   refine r_ordb (l:=[0]) rfl (by kernel_rfl) ?_
   refine sA rfl ?_
   refine sQ ?_
   refine c_ret rfl ?_
   refine q_then_ret ?_
   have e_:=Option.some.inj H
   subst e_
   exact q_ret (vs:=[.bool false]) rfl (.tmp rfl .nil) [] rfl (by decide) (hX)
  ·
   subst h26_
   replace H:=ite_n (by decide) H
   refine c_cond0 rfl rfl ?_
   refine kQ rfl ?_
   refine c_seq rfl ?_
   refine c_seq rfl ?_
   refine r_ordb (l:=[0]) rfl (by kernel_rfl) ?_
   refine sA rfl ?_
   refine sQ ?_
   refine c_block rfl ?_
   refine c_loop (σ:=Nat × Int) (fun (k,x100_)=>sr21_Right.l0 k p0 p1 p2 p3 p4 p5 p6 l1 x100_=some r0) (fun (k,x100_)=>k) (fun (k,x100_)=>[(1,.slice A1 l1.length c1),(2,.P b2_),(4,.bool false),(5,.I x100_)]) (fun (k,x100_)=>[.b b2_ (.cells (cfA p0 p1 p2 p3 p4 p5 p6) 23 (0,0)),.f (KU A1 c1 l1)]) (k,0) [0,1] rfl H (subF_spec ⟨rfl,rfl,rfl,rfl,trivial⟩) rfl (by decide) ?_
   rintro ⟨k0_,x100_⟩ hs174_
   clear H
   have H:sr21_Right.l0 k0_ p0 p1 p2 p3 p4 p5 p6 l1 x100_=some r0:=hs174_
   try clear hs174_
   rcases k0_ with _ | k0_
   ·exact none_no (show none=_ from H)
   unfold sr21_Right.l0 at H
   have hko_0:k0_≤k0_:=Nat.le_refl _
   refine c_seq rfl ?_
   refine c_seq rfl ?_
   refine r_ordb (l:=[0,1,2,3]) rfl (by kernel_rfl) ?_
   refine sM rfl ?_
   refine sV rfl (vF Tryz.underlying23 SZ3 rfl) ?_
   refine sV rfl (vL 0 Tryz.underlying3 rfl) ?_
   refine sR rfl ?_
   refine sQ ?_
   rcases Bool.eq_false_or_eq_true (decide ((x100_:Int)<p3)) with h178_ | h178_
   ·
    replace H:=ite_y (dec_t h178_) H
    refine cT h178_ rfl ?_
    refine kQ rfl ?_
    refine c_seq rfl ?_
    refine c_block rfl ?_
    refine c_seq rfl ?_
    refine r_ordb (l:=[0,1,2,3,4,5,6,7,8]) rfl (by kernel_rfl) ?_
    refine sV rfl (vLA (lfA p0 p1 p2 p3 p4 p5 p6) 0 Tryz.underlying23 SZ23 rfl) ?_
    refine sM rfl ?_
    refine sM rfl ?_
    obtain ⟨⟨t185_,t186_⟩,e187_,H⟩:=bind_s H
    refine s_e rfl rfl (eC [1] #[.agg (cfA p0 p1 p2 p3 p4 p5 p6),.slice A1 l1.length c1,.I x100_] Tryz.func16 (by decide) rfl (fun w ht=>sr21_Level_con _ p0 p1 p2 p3 p4 p5 p6 A1 c1 l1 x100_ t185_ t186_ e187_ w _)) ?_
    intro A188_ c189_
    refine sM rfl ?_
    refine sV rfl (v_ext rfl rfl rfl) ?_
    refine sV rfl (v_ext rfl rfl rfl) ?_
    refine sA rfl ?_
    refine sA rfl ?_
    refine sE rfl ?_
    obtain ⟨⟨j207_,j208_,j209_,j210_,j211_⟩,e212_,H⟩:=bind_s H
    refine c_join (β:=Unit) (fun _=>True) (fun _=>[(1,.slice A1 l1.length c1),(2,.P b2_),(4,.bool false),(5,.I x100_),(20,.I x100_),(21,.pointer (some ⟨b2_,3,none⟩)),(22,.I p3),(23,.bool (decide ((x100_:Int)<p3))),(27,.agg (cfA p0 p1 p2 p3 p4 p5 p6)),(28,.slice A1 l1.length c1),(29,.I x100_),(30,.tuple #[.slice A188_ t185_.length c189_,.U t186_]),(26,.tuple #[.slice A188_ t185_.length c189_,.U t186_]),(31,.slice A188_ t185_.length c189_),(32,.U t186_),(6,.slice A188_ t185_.length c189_),(7,.U t186_),(33,.agg (cfA p0 p1 p2 p3 p4 p5 p6)),(34,.slice A1 l1.length c1),(35,.I x100_),(36,.bool j207_),(37,.bool j208_),(43,.bool j209_),(44,.bool j210_),(47,.bool j211_)]) (fun _=>[.f (KU A188_ c189_ t185_),.b b2_ (.cells (cfA p0 p1 p2 p3 p4 p5 p6) 23 (0,0)),.f (KU A1 c1 l1)]) rfl (fun _ _=>?_) (fun J_=>?_)
    ·
     rcases Bool.eq_false_or_eq_true j211_ with h213_ | h213_
     ·
      subst h213_
      replace H:=ite_y rfl H
      refine c_cond1 rfl rfl ?_
      refine c_seq rfl ?_
      refine r_ordb (l:=[0]) rfl (by kernel_rfl) ?_
      refine sA rfl ?_
      refine sQ ?_
      refine c_ret rfl ?_
      refine q_then_ret ?_
      refine q_block_ret ?_
      refine q_then_ret ?_
      refine q_then_ret ?_
      refine q_block_ret ?_
      refine q_then_ret ?_
      have e_:=Option.some.inj H
      subst e_
      exact q_ret (vs:=[.bool false]) rfl (.tmp rfl .nil) [] rfl (by decide) (hX)
     ·
      subst h213_
      replace H:=ite_n (by decide) H
      refine c_cond0 rfl rfl ?_
      refine kQ rfl ?_
      refine c_seq rfl ?_
      refine r_ordb (l:=[0]) rfl (by kernel_rfl) ?_
      refine sA rfl ?_
      refine sQ ?_
      refine c_block rfl ?_
      refine c_loop (σ:=Nat × Int) (fun (k,x222_)=>sr21_Right.l1 k p0 p1 p2 p3 p4 p5 p6 l1 x100_ t185_ x222_=some r0∧k≤k0_) (fun (k,x222_)=>k) (fun (k,x222_)=>[(1,.slice A1 l1.length c1),(2,.P b2_),(4,.bool false),(5,.I x100_),(20,.I x100_),(21,.pointer (some ⟨b2_,3,none⟩)),(22,.I p3),(23,.bool (decide ((x100_:Int)<p3))),(27,.agg (cfA p0 p1 p2 p3 p4 p5 p6)),(28,.slice A1 l1.length c1),(29,.I x100_),(30,.tuple #[.slice A188_ t185_.length c189_,.U t186_]),(26,.tuple #[.slice A188_ t185_.length c189_,.U t186_]),(31,.slice A188_ t185_.length c189_),(32,.U t186_),(6,.slice A188_ t185_.length c189_),(7,.U t186_),(33,.agg (cfA p0 p1 p2 p3 p4 p5 p6)),(34,.slice A1 l1.length c1),(35,.I x100_),(36,.bool j207_),(37,.bool j208_),(43,.bool j209_),(44,.bool j210_),(47,.bool false),(8,.I x222_)]) (fun (k,x222_)=>[.f (KU A188_ c189_ t185_),.b b2_ (.cells (cfA p0 p1 p2 p3 p4 p5 p6) 23 (0,0)),.f (KU A1 c1 l1)]) (k0_,0) [0,1,2] rfl ⟨H,hko_0⟩ (subF_spec ⟨rfl,rfl,rfl,rfl,rfl,rfl,rfl,rfl,rfl,rfl,rfl,rfl,rfl,rfl,rfl,rfl,rfl,rfl,rfl,rfl,rfl,rfl,rfl,rfl,rfl,rfl,trivial⟩) rfl (by decide) ?_
      rintro ⟨k1_,x222_⟩ hs246_
      clear H
      obtain ⟨H,hko_0⟩:sr21_Right.l1 k1_ p0 p1 p2 p3 p4 p5 p6 l1 x100_ t185_ x222_=some r0∧k1_≤k0_:=hs246_
      try clear hs246_
      rcases k1_ with _ | k1_
      ·exact none_no (show none=_ from H)
      unfold sr21_Right.l1 at H
      replace hko_0:=Nat.le_of_succ_le hko_0
      have hko_1:k1_≤k1_:=Nat.le_refl _
      refine c_seq rfl ?_
      refine c_seq rfl ?_
      refine r_ordb (l:=[0,1,2,3]) rfl (by kernel_rfl) ?_
      refine sM rfl ?_
      refine sM rfl ?_
      refine sV rfl (v_len rfl rfl rfl Tryz.underlying24 rfl rfl) ?_
      refine sR rfl ?_
      refine sQ ?_
      rcases Bool.eq_false_or_eq_true (decide ((x222_:Int)<(t185_.length:Int))) with h250_ | h250_
      ·
       replace H:=ite_y (dec_t h250_) H
       refine cT h250_ rfl ?_
       refine kQ rfl ?_
       refine c_seq rfl ?_
       refine c_block rfl ?_
       refine c_seq rfl ?_
       refine c_seq rfl ?_
       obtain ⟨n281_,H⟩:=ite_no H
       obtain ⟨t282_,e283_,H⟩:=bind_s H
       refine r_any [.f (KU A188_ c189_ t185_),.b b2_ (.cells (cfA p0 p1 p2 p3 p4 p5 p6) 23 (0,0)),.f (KU A1 c1 l1)] (by kernel_rfl) rfl (by kernel_rfl) (mem_pick (idx:=[0,1,2]) rfl) ?_
       refine aV 0 rfl (by kernel_rfl) (vLA (lfA p0 p1 p2 p3 p4 p5 p6) 1 Tryz.underlying23 SZ23 rfl) ?_
       refine aV 1 rfl (by kernel_rfl) (vM rfl) ?_
       refine aV 2 rfl (by kernel_rfl) (vM rfl) ?_
       refine aV 3 rfl (by kernel_rfl) (vM rfl) ?_
       refine aV 4 rfl (by kernel_rfl) (v_iaK (i:=0) rfl Tryz.underlying24 SZ41 rfl rfl rfl rfl n281_ (dec_t h250_)) ?_
       refine aV 5 rfl (by kernel_rfl) (v_ldK (v := .U (rd t185_ x222_)) 0 0 rfl Tryz.underlying41 rfl rfl rfl rfl n281_ (dec_t h250_) (fun w K h=>h)) ?_
       refine aV 6 rfl (by kernel_rfl) (vM rfl) ?_
       refine a_1 (i:=7) (by kernel_rfl) ?_
       refine i_e rfl rfl (eC [2] #[.agg (cfA p0 p1 p2 p3 p4 p5 p6),.slice A1 l1.length c1,.U (rd t185_ x222_),.I x100_] Tryz.func92 (by decide) rfl (fun w ht=>sr21_node_con _ p0 p1 p2 p3 p4 p5 p6 A1 c1 l1 (rd t185_ x222_) x100_ t282_ e283_ w _)) ?_
       refine ⟨(mem_pick (idx:=[0,1,2]) rfl),?_⟩
       refine aV 8 rfl (by kernel_rfl) (v_not rfl rfl) ?_
       refine a_end (by kernel_rfl) ?_
       refine q_seq ?_
       rcases Bool.eq_false_or_eq_true (!t282_) with h284_ | h284_
       ·
        replace H:=ite_n (not_t (bnot_t h284_)) H
        refine cT h284_ rfl ?_
        refine c_seq rfl ?_
        refine r_ordb (l:=[0]) rfl (by kernel_rfl) ?_
        refine sA rfl ?_
        refine sQ ?_
        refine c_ret rfl ?_
        refine q_then_ret ?_
        refine q_block_ret ?_
        refine q_then_ret ?_
        refine q_then_ret ?_
        refine q_block_ret ?_
        refine q_block_ret ?_
        refine q_then_ret ?_
        refine q_then_ret ?_
        refine q_block_ret ?_
        refine q_then_ret ?_
        have e_:=Option.some.inj H
        subst e_
        exact q_ret (vs:=[.bool false]) rfl (.tmp rfl .nil) [] rfl (by decide) (hX)
       ·
        replace H:=ite_y (bnot_f h284_) H
        refine cF h284_ rfl ?_
        refine kQ rfl ?_
        obtain ⟨⟨j298_,j299_,j300_⟩,e301_,H⟩:=bind_s H
        refine c_join (β:=Unit) (fun _=>True) (fun _=>[(1,.slice A1 l1.length c1),(2,.P b2_),(4,.bool false),(5,.I x100_),(20,.I x100_),(21,.pointer (some ⟨b2_,3,none⟩)),(22,.I p3),(23,.bool (decide ((x100_:Int)<p3))),(27,.agg (cfA p0 p1 p2 p3 p4 p5 p6)),(28,.slice A1 l1.length c1),(29,.I x100_),(30,.tuple #[.slice A188_ t185_.length c189_,.U t186_]),(26,.tuple #[.slice A188_ t185_.length c189_,.U t186_]),(31,.slice A188_ t185_.length c189_),(32,.U t186_),(6,.slice A188_ t185_.length c189_),(7,.U t186_),(33,.agg (cfA p0 p1 p2 p3 p4 p5 p6)),(34,.slice A1 l1.length c1),(35,.I x100_),(36,.bool j207_),(37,.bool j208_),(43,.bool j209_),(44,.bool j210_),(47,.bool false),(8,.I x222_),(48,.I x222_),(49,.slice A188_ t185_.length c189_),(50,.I (t185_.length:Int)),(51,.bool (decide ((x222_:Int)<(t185_.length:Int)))),(54,.agg (cfA p0 p1 p2 p3 p4 p5 p6)),(55,.slice A1 l1.length c1),(56,.slice A188_ t185_.length c189_),(57,.I x222_),(58,.pointer (some (at0 A188_ x222_ 1))),(59,.U (rd t185_ x222_)),(60,.I x100_),(61,.bool t282_),(62,.bool (!t282_)),(63,.I x222_),(64,.bool j298_),(65,.bool j299_),(84,.bool j300_)]) (fun _=>[.f (KU A188_ c189_ t185_),.b b2_ (.cells (cfA p0 p1 p2 p3 p4 p5 p6) 23 (0,0)),.f (KU A1 c1 l1)]) rfl (fun _ _=>?_) (fun J_=>?_)
        ·
         rcases Bool.eq_false_or_eq_true j300_ with h302_ | h302_
         ·
          subst h302_
          replace H:=ite_y rfl H
          refine c_cond1 rfl rfl ?_
          refine c_seq rfl ?_
          refine r_ordb (l:=[0]) rfl (by kernel_rfl) ?_
          refine sA rfl ?_
          refine sQ ?_
          refine c_ret rfl ?_
          refine q_block_ret ?_
          refine q_then_ret ?_
          refine q_then_ret ?_
          refine q_block_ret ?_
          refine q_block_ret ?_
          refine q_then_ret ?_
          refine q_then_ret ?_
          refine q_block_ret ?_
          refine q_then_ret ?_
          have e_:=Option.some.inj H
          subst e_
          exact q_ret (vs:=[.bool false]) rfl (.tmp rfl .nil) [] rfl (by decide) (hX)
         ·
          subst h302_
          replace H:=ite_n (by decide) H
          refine c_cond0 rfl rfl ?_
          refine c_skip rfl ?_
          refine q_block ?_
          refine q_seq ?_
          refine r_ordb (l:=[0,1,2]) rfl (by kernel_rfl) ?_
          refine sM rfl ?_
          refine sR rfl ?_
          refine sA rfl ?_
          refine s_end ?_
          exact q_again (k1_,IntKind.wrap .i64 (x222_+1)) [0,1,2] ⟨H,hko_0⟩ (Nat.lt_succ_of_le hko_1) (subF_spec ⟨rfl,rfl,rfl,rfl,rfl,rfl,rfl,rfl,rfl,rfl,rfl,rfl,rfl,rfl,rfl,rfl,rfl,rfl,rfl,rfl,rfl,rfl,rfl,rfl,rfl,rfl,trivial⟩) rfl (by decide)
        ·
         clear H
         have H:=e301_
         clear e301_
         rcases Bool.eq_false_or_eq_true (decide ((x222_:Int) > 0)) with h303_ | h303_
         ·
          replace H:=ite_y (dec_t h303_) H
          obtain ⟨n304_,H⟩:=ite_no H
          obtain ⟨n305_,H⟩:=ite_no H
          obtain ⟨t306_,e307_,H⟩:=bind_s H
          obtain ⟨t308_,e309_,H⟩:=bind_s H
          obtain ⟨t310_,e311_,H⟩:=bind_s H
          obtain ⟨t312_,e313_,H⟩:=bind_s H
          refine r_any [.f (KU A188_ c189_ t185_),.b b2_ (.cells (cfA p0 p1 p2 p3 p4 p5 p6) 23 (0,0)),.f (KU A1 c1 l1)] (by kernel_rfl) rfl (by kernel_rfl) (mem_pick (idx:=[0,1,2]) rfl) ?_
          refine aV 0 rfl (by kernel_rfl) (vM rfl) ?_
          refine aV 1 rfl (by kernel_rfl) (OpV.cast (v := .bool true) (vR rfl) (congrArg Value.bool h303_)) ?_
          refine aV 2 rfl (by kernel_rfl) (vM rfl) ?_
          refine aV 3 rfl (by kernel_rfl) (vLA (lfA p0 p1 p2 p3 p4 p5 p6) 1 Tryz.underlying23 SZ23 rfl) ?_
          refine aV 4 rfl (by kernel_rfl) (vM rfl) ?_
          refine aV 5 rfl (by kernel_rfl) (vM rfl) ?_
          refine aV 6 rfl (by kernel_rfl) (vM rfl) ?_
          refine aV 7 rfl (by kernel_rfl) (vR rfl) ?_
          refine aV 8 rfl (by kernel_rfl) (v_iaK (i:=0) rfl Tryz.underlying24 SZ41 rfl rfl rfl rfl n304_ n305_) ?_
          refine aV 9 rfl (by kernel_rfl) (v_ldK (v := .U (rd t185_ (IntKind.wrap .i64 (x222_ - 1)))) 0 0 rfl Tryz.underlying41 rfl rfl rfl rfl n304_ n305_ (fun w K h=>h)) ?_
          refine aV 12 rfl (by kernel_rfl) (vLA (lfA p0 p1 p2 p3 p4 p5 p6) 1 Tryz.underlying23 SZ23 rfl) ?_
          refine aV 13 rfl (by kernel_rfl) (vM rfl) ?_
          refine aV 14 rfl (by kernel_rfl) (vM rfl) ?_
          refine aV 15 rfl (by kernel_rfl) (vM rfl) ?_
          refine aV 16 rfl (by kernel_rfl) (v_iaK (i:=0) rfl Tryz.underlying24 SZ41 rfl rfl rfl rfl n281_ (dec_t h250_)) ?_
          refine aV 17 rfl (by kernel_rfl) (v_ldK (v := .U (rd t185_ x222_)) 0 0 rfl Tryz.underlying41 rfl rfl rfl rfl n281_ (dec_t h250_) (fun w K h=>h)) ?_
          refine a_1 (i:=10) (by kernel_rfl) ?_
          refine i_e rfl rfl (eC [] #[.U (rd t185_ (IntKind.wrap .i64 (x222_ - 1)))] Tryz.func17 (by decide) rfl (fun w ht=>sr01_Index_con (rd t185_ (IntKind.wrap .i64 (x222_ - 1))) t306_ e307_ w _)) ?_
          refine ⟨(mem_pick (idx:=[0,1,2]) rfl),?_⟩
          refine a_1 (i:=11) (by kernel_rfl) ?_
          refine i_e rfl rfl (eC [2] #[.agg (cfA p0 p1 p2 p3 p4 p5 p6),.slice A1 l1.length c1,.I t306_,.I 1] Tryz.func46 (by decide) rfl (fun w ht=>sr21_at_con p0 p1 p2 p3 p4 p5 p6 A1 c1 l1 t306_ 1 t308_ e309_ w _)) ?_
          refine ⟨(mem_pick (idx:=[0,1,2]) rfl),?_⟩
          refine a_1 (i:=18) (by kernel_rfl) ?_
          refine i_e rfl rfl (eC [] #[.U (rd t185_ x222_)] Tryz.func17 (by decide) rfl (fun w ht=>sr01_Index_con (rd t185_ x222_) t310_ e311_ w _)) ?_
          refine ⟨(mem_pick (idx:=[0,1,2]) rfl),?_⟩
          refine a_1 (i:=19) (by kernel_rfl) ?_
          refine i_e rfl rfl (eC [2] #[.agg (cfA p0 p1 p2 p3 p4 p5 p6),.slice A1 l1.length c1,.I t310_,.I 1] Tryz.func46 (by decide) rfl (fun w ht=>sr21_at_con p0 p1 p2 p3 p4 p5 p6 A1 c1 l1 t310_ 1 t312_ e313_ w _)) ?_
          refine ⟨(mem_pick (idx:=[0,1,2]) rfl),?_⟩
          refine aV 20 rfl (by kernel_rfl) (vR rfl) ?_
          refine aV 21 rfl (by kernel_rfl) (vP rfl) ?_
          refine a_end (by kernel_rfl) ?_
          have hq_0:=Option.some.inj H
          obtain ⟨ee_0,hq_1⟩:=Prod.mk.inj hq_0
          obtain ⟨ee_1,hq_2⟩:=Prod.mk.inj hq_1
          subst ee_0
          subst ee_1
          subst hq_2
          exact q_seq (c_frame (subF_spec (by exact ⟨rfl,rfl,rfl,rfl,rfl,rfl,rfl,rfl,rfl,rfl,rfl,rfl,rfl,rfl,rfl,rfl,rfl,rfl,rfl,rfl,rfl,rfl,rfl,rfl,rfl,rfl,rfl,rfl,rfl,rfl,rfl,rfl,rfl,rfl,rfl,rfl,rfl,rfl,rfl,rfl,rfl,rfl,rfl,trivial⟩)) (c_take [0,1,2] rfl (by decide) (J_ () trivial)))
         ·
          replace H:=ite_n (dec_f h303_) H
          refine r_any [.f (KU A188_ c189_ t185_),.b b2_ (.cells (cfA p0 p1 p2 p3 p4 p5 p6) 23 (0,0)),.f (KU A1 c1 l1)] (by kernel_rfl) rfl (by kernel_rfl) (mem_pick (idx:=[0,1,2]) rfl) ?_
          refine aV 0 rfl (by kernel_rfl) (vM rfl) ?_
          refine aV 1 rfl (by kernel_rfl) (OpV.cast (v := .bool false) (vR rfl) (congrArg Value.bool h303_)) ?_
          refine aV 2 rfl (by kernel_rfl) (vM rfl) ?_
          refine aN 3 rfl (by kernel_rfl) ?_
          refine aN 4 rfl (by kernel_rfl) ?_
          refine aN 5 rfl (by kernel_rfl) ?_
          refine aN 6 rfl (by kernel_rfl) ?_
          refine aN 7 rfl (by kernel_rfl) ?_
          refine aN 8 rfl (by kernel_rfl) ?_
          refine aN 9 rfl (by kernel_rfl) ?_
          refine aN 10 rfl (by kernel_rfl) ?_
          refine aN 11 rfl (by kernel_rfl) ?_
          refine aN 12 rfl (by kernel_rfl) ?_
          refine aN 13 rfl (by kernel_rfl) ?_
          refine aN 14 rfl (by kernel_rfl) ?_
          refine aN 15 rfl (by kernel_rfl) ?_
          refine aN 16 rfl (by kernel_rfl) ?_
          refine aN 17 rfl (by kernel_rfl) ?_
          refine aN 18 rfl (by kernel_rfl) ?_
          refine aN 19 rfl (by kernel_rfl) ?_
          refine aN 20 rfl (by kernel_rfl) ?_
          refine aV 21 rfl (by kernel_rfl) (vP rfl) ?_
          refine a_end (by kernel_rfl) ?_
          have hq_0:=Option.some.inj H
          obtain ⟨ee_0,hq_1⟩:=Prod.mk.inj hq_0
          obtain ⟨ee_1,hq_2⟩:=Prod.mk.inj hq_1
          subst ee_0
          subst ee_1
          subst hq_2
          exact q_seq (c_frame (subF_spec (by exact ⟨rfl,rfl,rfl,rfl,rfl,rfl,rfl,rfl,rfl,rfl,rfl,rfl,rfl,rfl,rfl,rfl,rfl,rfl,rfl,rfl,rfl,rfl,rfl,rfl,rfl,rfl,rfl,rfl,rfl,rfl,rfl,rfl,rfl,rfl,rfl,rfl,rfl,rfl,rfl,rfl,rfl,rfl,rfl,trivial⟩)) (c_take [0,1,2] rfl (by decide) (J_ () trivial)))
      ·
       replace H:=ite_n (dec_f h250_) H
       refine cF h250_ rfl ?_
       refine c_exit (i:=2) rfl rfl ?_
       refine q_then_exit ?_
       refine q_then_exit ?_
       refine q_block_here rfl ?_
       refine q_block ?_
       refine q_seq ?_
       refine r_ordb (l:=[0,1,2]) rfl (by kernel_rfl) ?_
       refine sM rfl ?_
       refine sR rfl ?_
       refine sA rfl ?_
       refine s_end ?_
       exact q_again (k1_,IntKind.wrap .i64 (x100_+1)) [1,2] H (Nat.lt_succ_of_le hko_0) (subF_spec ⟨rfl,rfl,rfl,rfl,trivial⟩) rfl (by decide)
    ·
     clear H
     have H:=e212_
     clear e212_
     refine r_ordb (l:=[0,1,2,3,4,5,6,7,8,9,10,11,12,13,14]) rfl (by kernel_rfl) ?_
     refine sV rfl (vLA (lfA p0 p1 p2 p3 p4 p5 p6) 1 Tryz.underlying23 SZ23 rfl) ?_
     refine sM rfl ?_
     refine sM rfl ?_
     obtain ⟨t315_,e316_,H⟩:=bind_s H
     refine s_e rfl rfl (eC [2] #[.agg (cfA p0 p1 p2 p3 p4 p5 p6),.slice A1 l1.length c1,.I 0,.I x100_] Tryz.func91 (by decide) rfl (fun w ht=>sr21_marked_con p0 p1 p2 p3 p4 p5 p6 A1 c1 l1 0 x100_ t315_ e316_ w _)) ?_
     refine sM rfl ?_
     rcases Bool.eq_false_or_eq_true t315_ with h317_ | h317_
     ·
      subst h317_
      replace H:=ite_y rfl H
      refine sN rfl ?_
      refine sN rfl ?_
      refine sN rfl ?_
      refine sN rfl ?_
      refine sN rfl ?_
      refine sP rfl ?_
      refine sM rfl ?_
      refine sN rfl ?_
      refine sN rfl ?_
      refine sP rfl ?_
      refine s_end ?_
      have hq_0:=Option.some.inj H
      obtain ⟨ee_0,hq_1⟩:=Prod.mk.inj hq_0
      obtain ⟨ee_1,hq_2⟩:=Prod.mk.inj hq_1
      obtain ⟨ee_2,hq_3⟩:=Prod.mk.inj hq_2
      obtain ⟨ee_3,hq_4⟩:=Prod.mk.inj hq_3
      subst ee_0
      subst ee_1
      subst ee_2
      subst ee_3
      subst hq_4
      exact q_seq (c_frame (subF_spec (by exact ⟨rfl,rfl,rfl,rfl,rfl,rfl,rfl,rfl,rfl,rfl,rfl,rfl,rfl,rfl,rfl,rfl,rfl,rfl,rfl,rfl,rfl,rfl,rfl,rfl,rfl,trivial⟩)) (c_take [0,1,2] rfl (by decide) (J_ () trivial)))
     ·
      subst h317_
      replace H:=ite_n (by decide) H
      refine sG rfl (vM rfl) ?_
      refine sG rfl (v_len rfl rfl rfl Tryz.underlying24 rfl rfl) ?_
      refine sG rfl (vF Tryz.underlying23 SZ3 rfl) ?_
      refine sG rfl (vL 1 Tryz.underlying3 rfl) ?_
      refine sG rfl (vR rfl) ?_
      refine sP rfl ?_
      refine sM rfl ?_
      rcases Bool.eq_false_or_eq_true (decide (((t185_.length:Int):Int) > p2)) with h318_ | h318_
      ·
       replace H:=ite_y (dec_t h318_) H
       refine s_splitv (d:=44) (t:=decide (((t185_.length:Int):Int) > p2)) rfl (fun _=>?_) (fun h319_=>absurd (h319_.symm.trans h318_) (by decide))
       refine sN rfl ?_
       refine sN rfl ?_
       refine sP rfl ?_
       refine s_end ?_
       have hq_0:=Option.some.inj H
       obtain ⟨ee_0,hq_1⟩:=Prod.mk.inj hq_0
       obtain ⟨ee_1,hq_2⟩:=Prod.mk.inj hq_1
       obtain ⟨ee_2,hq_3⟩:=Prod.mk.inj hq_2
       obtain ⟨ee_3,hq_4⟩:=Prod.mk.inj hq_3
       subst ee_0
       subst ee_1
       subst ee_2
       subst ee_3
       subst hq_4
       exact q_seq (c_frame (subF_spec (by exact ⟨rfl,rfl,rfl,rfl,rfl,rfl,rfl,rfl,rfl,rfl,rfl,rfl,rfl,rfl,rfl,rfl,rfl,rfl,rfl,rfl,rfl,rfl,rfl,rfl,rfl,trivial⟩)) (c_take [0,1,2] rfl (by decide) (J_ () trivial)))
      ·
       replace H:=ite_n (dec_f h318_) H
       refine s_splitv (d:=44) (t:=decide (((t185_.length:Int):Int) > p2)) rfl (fun h320_=>absurd (h320_.symm.trans h318_) (by decide)) (fun _=>?_)
       refine sG rfl (vM rfl) ?_
       obtain ⟨t321_,e322_,H⟩:=bind_s H
       refine s_eg rfl rfl (eC [] #[.U t186_] Tryz.func52 (by decide) rfl (fun w ht=>sr01_Valid_con t186_ t321_ e322_ w _)) ?_
       refine sP rfl ?_
       refine s_end ?_
       have hq_0:=Option.some.inj H
       obtain ⟨ee_0,hq_1⟩:=Prod.mk.inj hq_0
       obtain ⟨ee_1,hq_2⟩:=Prod.mk.inj hq_1
       obtain ⟨ee_2,hq_3⟩:=Prod.mk.inj hq_2
       obtain ⟨ee_3,hq_4⟩:=Prod.mk.inj hq_3
       subst ee_0
       subst ee_1
       subst ee_2
       subst ee_3
       subst hq_4
       exact q_seq (c_frame (subF_spec (by exact ⟨rfl,rfl,rfl,rfl,rfl,rfl,rfl,rfl,rfl,rfl,rfl,rfl,rfl,rfl,rfl,rfl,rfl,rfl,rfl,rfl,rfl,rfl,rfl,rfl,rfl,trivial⟩)) (c_take [0,1,2] rfl (by decide) (J_ () trivial)))
   ·
    replace H:=ite_n (dec_f h178_) H
    refine cF h178_ rfl ?_
    refine c_exit (i:=0) rfl rfl ?_
    refine q_then_exit ?_
    refine q_then_exit ?_
    refine q_block_here rfl ?_
    refine q_seq ?_
    refine c_seq rfl ?_
    refine r_ordb (l:=[0]) rfl (by kernel_rfl) ?_
    refine sA rfl ?_
    refine sQ ?_
    refine c_ret rfl ?_
    have e_:=Option.some.inj H
    subst e_
    exact q_ret (vs:=[.bool true]) rfl (.tmp rfl .nil) [] rfl (by decide) (hX)
 ·
  clear H
  have H:=e25_
  clear e25_
  refine r_ordb (l:=[0,1,2,3,4,5,6,7,8,9,10]) rfl (by kernel_rfl) ?_
  refine sV rfl (vLA (lfA p0 p1 p2 p3 p4 p5 p6) 0 Tryz.underlying23 SZ23 rfl) ?_
  refine sM rfl ?_
  obtain ⟨t324_,e325_,H⟩:=bind_s H
  refine s_e rfl rfl (eC [1] #[.agg (cfA p0 p1 p2 p3 p4 p5 p6),.slice A1 l1.length c1] Tryz.func51 (by decide) rfl (fun w ht=>sr21_whole_con p0 p1 p2 p3 p4 p5 p6 A1 c1 l1 t324_ e325_ w _)) ?_
  refine sV rfl (v_not rfl rfl) ?_
  refine sM rfl ?_
  rcases Bool.eq_false_or_eq_true (!t324_) with h326_ | h326_
  ·
   replace H:=ite_n (not_t (bnot_t h326_)) H
   refine s_splitv (d:=13) (t:=!t324_) rfl (fun _=>?_) (fun h327_=>absurd (h327_.symm.trans h326_) (by decide))
   refine sN rfl ?_
   refine sN rfl ?_
   refine sN rfl ?_
   refine sN rfl ?_
   refine sN rfl ?_
   refine sP rfl ?_
   refine s_end ?_
   have hq_0:=Option.some.inj H
   subst hq_0
   exact q_seq (c_frame (subF_spec (by exact ⟨rfl,rfl,rfl,rfl,trivial⟩)) (c_take [0,1] rfl (by decide) (J_ () trivial)))
  ·
   replace H:=ite_y (bnot_f h326_) H
   refine s_splitv (d:=13) (t:=!t324_) rfl (fun h328_=>absurd (h328_.symm.trans h326_) (by decide)) (fun _=>?_)
   refine sG rfl (vLA (lfA p0 p1 p2 p3 p4 p5 p6) 0 Tryz.underlying23 SZ23 rfl) ?_
   refine sG rfl (vM rfl) ?_
   obtain ⟨t329_,e330_,H⟩:=bind_s H
   refine s_eg rfl rfl (eC [1] #[.agg (cfA p0 p1 p2 p3 p4 p5 p6),.slice A1 l1.length c1,.I 0,.I 0] Tryz.func46 (by decide) rfl (fun w ht=>sr21_at_con p0 p1 p2 p3 p4 p5 p6 A1 c1 l1 0 0 t329_ e330_ w _)) ?_
   obtain ⟨t331_,e332_,H⟩:=bind_s H
   refine s_eg rfl rfl (eC [] #[.I 0] Tryz.func18 (by decide) rfl (fun w ht=>sr02_Taken_con 0 t331_ e332_ w _)) ?_
   refine sG rfl (vR rfl) ?_
   refine sP rfl ?_
   refine s_end ?_
   have hq_0:=Option.some.inj H
   subst hq_0
   exact q_seq (c_frame (subF_spec (by exact ⟨rfl,rfl,rfl,rfl,trivial⟩)) (c_take [0,1] rfl (by decide) (J_ () trivial)))
end Go.Eng
