/-
Own text, put together by an own program (shake.py) out of this claim's texts: what its theorem needs of them.
-/
import Derived.Test.YtgbcnokeaaabfaaGreatA7
namespace Go.Eng
open Go.Proofs Go.RowKit Go.Proofs.YtgbcnokeaaabfaaGreatW.PrintWords
set_option linter.unusedVariables false
set_option linter.unusedSimpArgs false
def sr04_Reserved.f (p0:Int) (p1:Int) (p2:Int) (p3:Int) (p4:Int) (p5:Int) (p6:Int) (a1:Int) (a2:Int):Option Int:=((sr04_Right.f p0 p1 p2 p3 p4 p5 p6).bind fun t37_=>(if t37_=true then (if (a1:Int)<0 then some true else (if (a1:Int)≥p0 then some true else (if (a2:Int)<0 then some true else some (decide ((a2:Int)≥p1))))) else some true):Option Bool).bind fun j34_=>(if j34_=true then some (-1) else some (IntKind.wrap .i64 ((IntKind.wrap .i64 (1+(IntKind.wrap .i64 (a1 * p1))))+a2)))
set_option maxRecDepth 100000 in
set_option maxHeartbeats 4000000 in
theorem sr04_Reserved_con (p0:Int) (p1:Int) (p2:Int) (p3:Int) (p4:Int) (p5:Int) (p6:Int) (a1:Int) (a2:Int) (r0:Int) (h:sr04_Reserved.f p0 p1 p2 p3 p4 p5 p6 a1 a2=some r0) (w0:World) (Hs:List Nat):Con Tryz.prog 43 #[.agg (cfA p0 p1 p2 p3 p4 p5 p6),.I a1,.I a2] w0 Hs [] (fun X=>X (.I r0) []):=by
 refine con_enter (c:=bodyOf Tryz.f43) Tryz.func43 rfl (m:=37) rfl rfl rfl ?_
 intro X hX _
 have H:=h
 unfold sr04_Reserved.f at H
 clear h
 refine c_seq rfl ?_
 refine r_ordb (l:=[0,1]) rfl (by kernel_rfl) ?_
 refine s_e rfl rfl (e_box rfl rfl rfl rfl) ?_
 intro b2_
 refine sA rfl ?_
 refine sE rfl ?_
 obtain ⟨j34_,e35_,H⟩:=bind_s H
 refine c_join (β:=Unit) (fun _=>True) (fun _=>[(1,.I a1),(2,.I a2),(3,.P b2_),(6,.I 0),(29,.bool j34_)]) (fun _=>[.b b2_ (.cells (cfA p0 p1 p2 p3 p4 p5 p6) 23 (0,0))]) rfl (fun _ _=>?_) (fun J_=>?_)
 rcases Bool.eq_false_or_eq_true j34_ with h36_ | h36_
 subst h36_
 replace H:=ite_y rfl H
 refine c_cond1 rfl rfl ?_
 refine c_seq rfl ?_
 refine r_ordb (l:=[0]) rfl (by kernel_rfl) ?_
 refine sA rfl ?_
 refine sQ ?_
 refine c_ret rfl ?_
 refine q_then_ret ?_
 have e_:=Option.some.inj H
 subst e_
 exact q_ret (vs:=[.I (-1)]) rfl (.tmp rfl .nil) [] rfl (by decide) (hX)
 subst h36_
 replace H:=ite_n (by decide) H
 refine c_cond0 rfl rfl ?_
 refine kQ rfl ?_
 refine c_seq rfl ?_
 refine r_ordb (l:=[0,1,2,3,4,5,6,7]) rfl (by kernel_rfl) ?_
 refine sM rfl ?_
 refine sV rfl (vF Tryz.underlying23 SZ3 rfl) ?_
 refine sV rfl (vL 0 Tryz.underlying3 rfl) ?_
 refine sR rfl ?_
 refine sR rfl ?_
 refine sM rfl ?_
 refine sR rfl ?_
 refine sA rfl ?_
 refine sQ ?_
 refine c_ret rfl ?_
 have e_:=Option.some.inj H
 subst e_
 exact q_ret (vs:=[.I (IntKind.wrap .i64 ((IntKind.wrap .i64 (1+(IntKind.wrap .i64 (a1 * p1))))+a2))]) rfl (.tmp rfl .nil) [] rfl (by decide) (hX)
 clear H
 have H:=e35_
 clear e35_
 refine r_ordb (l:=[0,1,2,3,4,5,6,7,8,9,10,11,12,13,14,15,16,17,18,19,20,21,22]) rfl (by kernel_rfl) ?_
 refine sV rfl (vLA (lfA p0 p1 p2 p3 p4 p5 p6) 0 Tryz.underlying23 SZ23 rfl) ?_
 obtain ⟨t37_,e38_,H⟩:=bind_s H
 refine s_e rfl rfl (eC [] #[.agg (cfA p0 p1 p2 p3 p4 p5 p6)] Tryz.func50 (by decide) rfl (fun w ht=>sr04_Right_con p0 p1 p2 p3 p4 p5 p6 t37_ e38_ w _)) ?_
 refine sV rfl (v_not rfl rfl) ?_
 refine sM rfl ?_
 rcases Bool.eq_false_or_eq_true (!t37_) with h39_ | h39_
 replace H:=ite_n (not_t (bnot_t h39_)) H
 refine s_splitv (d:=10) (t:=!t37_) rfl (fun _=>?_) (fun h40_=>absurd (h40_.symm.trans h39_) (by decide))
 refine sN rfl ?_
 refine sN rfl ?_
 refine sP rfl ?_
 refine sM rfl ?_
 refine sN rfl ?_
 refine sN rfl ?_
 refine sN rfl ?_
 refine sN rfl ?_
 refine sP rfl ?_
 refine sM rfl ?_
 refine sN rfl ?_
 refine sN rfl ?_
 refine sP rfl ?_
 refine sM rfl ?_
 refine sN rfl ?_
 refine sN rfl ?_
 refine sN rfl ?_
 refine sN rfl ?_
 refine sP rfl ?_
 refine s_end ?_
 have hq_0:=Option.some.inj H
 subst hq_0
 exact q_seq (c_frame (subF_spec (by exact ⟨rfl,rfl,rfl,rfl,rfl,trivial⟩)) (c_take [0] rfl (by decide) (J_ () trivial)))
 replace H:=ite_y (bnot_f h39_) H
 refine s_splitv (d:=10) (t:=!t37_) rfl (fun h41_=>absurd (h41_.symm.trans h39_) (by decide)) (fun _=>?_)
 refine sG rfl (vM rfl) ?_
 refine sG rfl (vR rfl) ?_
 refine sP rfl ?_
 refine sM rfl ?_
 rcases Bool.eq_false_or_eq_true (decide ((a1:Int)<0)) with h42_ | h42_
 replace H:=ite_y (dec_t h42_) H
 refine s_splitv (d:=14) (t:=decide ((a1:Int)<0)) rfl (fun _=>?_) (fun h43_=>absurd (h43_.symm.trans h42_) (by decide))
 refine sN rfl ?_
 refine sN rfl ?_
 refine sN rfl ?_
 refine sN rfl ?_
 refine sP rfl ?_
 refine sM rfl ?_
 refine sN rfl ?_
 refine sN rfl ?_
 refine sP rfl ?_
 refine sM rfl ?_
 refine sN rfl ?_
 refine sN rfl ?_
 refine sN rfl ?_
 refine sN rfl ?_
 refine sP rfl ?_
 refine s_end ?_
 have hq_0:=Option.some.inj H
 subst hq_0
 exact q_seq (c_frame (subF_spec (by exact ⟨rfl,rfl,rfl,rfl,rfl,trivial⟩)) (c_take [0] rfl (by decide) (J_ () trivial)))
 replace H:=ite_n (dec_f h42_) H
 refine s_splitv (d:=14) (t:=decide ((a1:Int)<0)) rfl (fun h44_=>absurd (h44_.symm.trans h42_) (by decide)) (fun _=>?_)
 refine sG rfl (vM rfl) ?_
 refine sG rfl (vF Tryz.underlying23 SZ3 rfl) ?_
 refine sG rfl (vL 0 Tryz.underlying3 rfl) ?_
 refine sG rfl (vR rfl) ?_
 refine sP rfl ?_
 refine sM rfl ?_
 rcases Bool.eq_false_or_eq_true (decide ((a1:Int)≥p0)) with h45_ | h45_
 replace H:=ite_y (dec_t h45_) H
 refine s_splitv (d:=20) (t:=decide ((a1:Int)≥p0)) rfl (fun _=>?_) (fun h46_=>absurd (h46_.symm.trans h45_) (by decide))
 refine sN rfl ?_
 refine sN rfl ?_
 refine sP rfl ?_
 refine sM rfl ?_
 refine sN rfl ?_
 refine sN rfl ?_
 refine sN rfl ?_
 refine sN rfl ?_
 refine sP rfl ?_
 refine s_end ?_
 have hq_0:=Option.some.inj H
 subst hq_0
 exact q_seq (c_frame (subF_spec (by exact ⟨rfl,rfl,rfl,rfl,rfl,trivial⟩)) (c_take [0] rfl (by decide) (J_ () trivial)))
 replace H:=ite_n (dec_f h45_) H
 refine s_splitv (d:=20) (t:=decide ((a1:Int)≥p0)) rfl (fun h47_=>absurd (h47_.symm.trans h45_) (by decide)) (fun _=>?_)
 refine sG rfl (vM rfl) ?_
 refine sG rfl (vR rfl) ?_
 refine sP rfl ?_
 refine sM rfl ?_
 rcases Bool.eq_false_or_eq_true (decide ((a2:Int)<0)) with h48_ | h48_
 replace H:=ite_y (dec_t h48_) H
 refine s_splitv (d:=24) (t:=decide ((a2:Int)<0)) rfl (fun _=>?_) (fun h49_=>absurd (h49_.symm.trans h48_) (by decide))
 refine sN rfl ?_
 refine sN rfl ?_
 refine sN rfl ?_
 refine sN rfl ?_
 refine sP rfl ?_
 refine s_end ?_
 have hq_0:=Option.some.inj H
 subst hq_0
 exact q_seq (c_frame (subF_spec (by exact ⟨rfl,rfl,rfl,rfl,rfl,trivial⟩)) (c_take [0] rfl (by decide) (J_ () trivial)))
 replace H:=ite_n (dec_f h48_) H
 refine s_splitv (d:=24) (t:=decide ((a2:Int)<0)) rfl (fun h50_=>absurd (h50_.symm.trans h48_) (by decide)) (fun _=>?_)
 refine sG rfl (vM rfl) ?_
 refine sG rfl (vF Tryz.underlying23 SZ3 rfl) ?_
 refine sG rfl (vL 0 Tryz.underlying3 rfl) ?_
 refine sG rfl (vR rfl) ?_
 refine sP rfl ?_
 refine s_end ?_
 have hq_0:=Option.some.inj H
 subst hq_0
 exact q_seq (c_frame (subF_spec (by exact ⟨rfl,rfl,rfl,rfl,rfl,trivial⟩)) (c_take [0] rfl (by decide) (J_ () trivial)))
def sr21_settled.l0:Nat→Int→Int→Int→Int→Int→Int→Int→List Int→Int→Int→Int→Option Bool
 | 0,_,_,_,_,_,_,_,_,_,_,_=>none
 | k+1,p0,p1,p2,p3,p4,p5,p6,l1,a2,t5_,x45_=>(sr21_at.f p0 p1 p2 p3 p4 p5 p6 l1 t5_ 4).bind fun t72_=>(if (x45_:Int)<(IntKind.wrap .i64 t72_) then (sr21_Level.f k p0 p1 p2 p3 p4 p5 p6 l1 x45_).bind fun (t94_,t95_)=>((sr21_marked.f p0 p1 p2 p3 p4 p5 p6 l1 t5_ x45_).bind fun t109_=>(if t109_=true then some (true,true,true) else (sr21_in.f k t94_ a2).bind fun t112_=>some (false,false,!t112_)):Option (Bool × Bool × Bool)).bind fun (j104_,j105_,j106_)=>(if j106_=true then some false else sr21_settled.l0 k p0 p1 p2 p3 p4 p5 p6 l1 a2 t5_ (IntKind.wrap .i64 (x45_+1))) else (sr21_Level.f k p0 p1 p2 p3 p4 p5 p6 l1 0).bind fun (t120_,t121_)=>(sr21_in.f k t120_ a2).bind fun t127_=>some t127_)
def sr21_settled.f (k:Nat) (p0:Int) (p1:Int) (p2:Int) (p3:Int) (p4:Int) (p5:Int) (p6:Int) (l1:List Int) (a2:Int):Option Bool:=(sr01_Index.f a2).bind fun t5_=>((sr21_at.f p0 p1 p2 p3 p4 p5 p6 l1 t5_ 2).bind fun t129_=>(sr02_Dead.f t129_).bind fun t131_=>(if t131_=true then some true else (sr21_at.f p0 p1 p2 p3 p4 p5 p6 l1 t5_ 5).bind fun t134_=>some ((t134_:Int) != 1)):Option Bool).bind fun j24_=>(if j24_=true then some false else sr21_settled.l0 k p0 p1 p2 p3 p4 p5 p6 l1 a2 t5_ 0)
set_option maxRecDepth 100000 in
set_option maxHeartbeats 4000000 in
theorem sr21_settled_con (k:Nat) (p0:Int) (p1:Int) (p2:Int) (p3:Int) (p4:Int) (p5:Int) (p6:Int) (A1:Option Addr) (c1:Nat) (l1:List Int) (a2:Int) (r0:Bool) (h:sr21_settled.f k p0 p1 p2 p3 p4 p5 p6 l1 a2=some r0) (w0:World) (Hs:List Nat):Con Tryz.prog 44 #[.agg (cfA p0 p1 p2 p3 p4 p5 p6),.slice A1 l1.length c1,.U a2] w0 Hs [.f (KU A1 c1 l1)] (fun X=>X (.bool r0) []):=by
 refine con_enter (c:=bodyOf Tryz.f44) Tryz.func44 rfl (m:=63) rfl rfl rfl ?_
 intro X hX _
 have H:=h
 unfold sr21_settled.f at H
 clear h
 refine c_seq rfl ?_
 refine r_ordb (l:=[0,1]) rfl (by kernel_rfl) ?_
 refine s_e rfl rfl (e_box rfl rfl rfl rfl) ?_
 intro b2_
 refine sA rfl ?_
 refine sE rfl ?_
 refine r_ordb (l:=[0,1,2]) rfl (by kernel_rfl) ?_
 refine sM rfl ?_
 obtain ⟨t5_,e6_,H⟩:=bind_s H
 refine s_e rfl rfl (eC [] #[.U a2] Tryz.func17 (by decide) rfl (fun w ht=>sr01_Index_con a2 t5_ e6_ w _)) ?_
 refine sA rfl ?_
 refine sE rfl ?_
 obtain ⟨j24_,e25_,H⟩:=bind_s H
 refine c_join (β:=Unit) (fun _=>True) (fun _=>[(1,.slice A1 l1.length c1),(2,.U a2),(3,.P b2_),(6,.bool false),(7,.I t5_),(26,.bool j24_)]) (fun _=>[.b b2_ (.cells (cfA p0 p1 p2 p3 p4 p5 p6) 23 (0,0)),.f (KU A1 c1 l1)]) rfl (fun _ _=>?_) (fun J_=>?_)
 ·
  rcases Bool.eq_false_or_eq_true j24_ with h26_ | h26_
  ·
   subst h26_
   replace H:=ite_y rfl H
   refine c_cond1 rfl rfl ?_
   refine c_seq rfl ?_
   refine r_ordb (l:=[0]) rfl (by kernel_rfl) ?_
   refine sA rfl ?_
   refine sQ ?_
   refine c_ret rfl ?_
   refine q_then_ret ?_
   have e_:=Option.some.inj H
   subst e_
   exact q_ret (vs:=[.bool false]) rfl (.tmp rfl .nil) [] rfl (by decide) (hX)
  ·
   subst h26_
   replace H:=ite_n (by decide) H
   refine c_cond0 rfl rfl ?_
   refine kQ rfl ?_
   refine c_seq rfl ?_
   refine c_seq rfl ?_
   refine r_ordb (l:=[0]) rfl (by kernel_rfl) ?_
   refine sA rfl ?_
   refine sQ ?_
   refine c_block rfl ?_
   refine c_loop (σ:=Nat × Int) (fun (k,x45_)=>sr21_settled.l0 k p0 p1 p2 p3 p4 p5 p6 l1 a2 t5_ x45_=some r0) (fun (k,x45_)=>k) (fun (k,x45_)=>[(1,.slice A1 l1.length c1),(2,.U a2),(3,.P b2_),(6,.bool false),(7,.I t5_),(8,.I x45_)]) (fun (k,x45_)=>[.b b2_ (.cells (cfA p0 p1 p2 p3 p4 p5 p6) 23 (0,0)),.f (KU A1 c1 l1)]) (k,0) [0,1] rfl H (subF_spec ⟨rfl,rfl,rfl,rfl,rfl,rfl,trivial⟩) rfl (by decide) ?_
   rintro ⟨k0_,x45_⟩ hs64_
   clear H
   have H:sr21_settled.l0 k0_ p0 p1 p2 p3 p4 p5 p6 l1 a2 t5_ x45_=some r0:=hs64_
   try clear hs64_
   rcases k0_ with _ | k0_
   ·exact none_no (show none=_ from H)
   unfold sr21_settled.l0 at H
   have hko_0:k0_≤k0_:=Nat.le_refl _
   refine c_seq rfl ?_
   refine c_seq rfl ?_
   refine r_ordb (l:=[0,1,2,3,4,5,6]) rfl (by kernel_rfl) ?_
   refine sM rfl ?_
   refine sV rfl (vLA (lfA p0 p1 p2 p3 p4 p5 p6) 0 Tryz.underlying23 SZ23 rfl) ?_
   refine sM rfl ?_
   refine sM rfl ?_
   obtain ⟨t72_,e73_,H⟩:=bind_s H
   refine s_e rfl rfl (eC [1] #[.agg (cfA p0 p1 p2 p3 p4 p5 p6),.slice A1 l1.length c1,.I t5_,.I 4] Tryz.func46 (by decide) rfl (fun w ht=>sr21_at_con p0 p1 p2 p3 p4 p5 p6 A1 c1 l1 t5_ 4 t72_ e73_ w _)) ?_
   refine sV rfl (v_conv rfl Tryz.underlying41 Tryz.underlying3 rfl) ?_
   refine sR rfl ?_
   refine sQ ?_
   rcases Bool.eq_false_or_eq_true (decide ((x45_:Int)<(IntKind.wrap .i64 t72_))) with h74_ | h74_
   ·
    replace H:=ite_y (dec_t h74_) H
    refine cT h74_ rfl ?_
    refine kQ rfl ?_
    refine c_seq rfl ?_
    refine c_block rfl ?_
    refine c_seq rfl ?_
    refine r_ordb (l:=[0,1,2,3,4,5,6,7,8]) rfl (by kernel_rfl) ?_
    refine sV rfl (vLA (lfA p0 p1 p2 p3 p4 p5 p6) 0 Tryz.underlying23 SZ23 rfl) ?_
    refine sM rfl ?_
    refine sM rfl ?_
    obtain ⟨⟨t94_,t95_⟩,e96_,H⟩:=bind_s H
    refine s_e rfl rfl (eC [1] #[.agg (cfA p0 p1 p2 p3 p4 p5 p6),.slice A1 l1.length c1,.I x45_] Tryz.func16 (by decide) rfl (fun w ht=>sr21_Level_con _ p0 p1 p2 p3 p4 p5 p6 A1 c1 l1 x45_ t94_ t95_ e96_ w _)) ?_
    intro A97_ c98_
    refine sM rfl ?_
    refine sV rfl (v_ext rfl rfl rfl) ?_
    refine sV rfl (v_ext rfl rfl rfl) ?_
    refine sA rfl ?_
    refine sA rfl ?_
    refine sQ ?_
    obtain ⟨⟨j104_,j105_,j106_⟩,e107_,H⟩:=bind_s H
    refine c_join (β:=Unit) (fun _=>True) (fun _=>[(1,.slice A1 l1.length c1),(2,.U a2),(3,.P b2_),(6,.bool false),(7,.I t5_),(8,.I x45_),(27,.I x45_),(28,.agg (cfA p0 p1 p2 p3 p4 p5 p6)),(29,.slice A1 l1.length c1),(30,.I t5_),(31,.U t72_),(32,.I (IntKind.wrap .i64 t72_)),(33,.bool (decide ((x45_:Int)<(IntKind.wrap .i64 t72_)))),(37,.agg (cfA p0 p1 p2 p3 p4 p5 p6)),(38,.slice A1 l1.length c1),(39,.I x45_),(40,.tuple #[.slice A97_ t94_.length c98_,.U t95_]),(36,.tuple #[.slice A97_ t94_.length c98_,.U t95_]),(41,.slice A97_ t94_.length c98_),(42,.U t95_),(9,.slice A97_ t94_.length c98_),(43,.agg (cfA p0 p1 p2 p3 p4 p5 p6)),(44,.slice A1 l1.length c1),(45,.I t5_),(46,.I x45_),(47,.bool j104_),(48,.bool j105_),(53,.bool j106_)]) (fun _=>[.f (KU A97_ c98_ t94_),.b b2_ (.cells (cfA p0 p1 p2 p3 p4 p5 p6) 23 (0,0)),.f (KU A1 c1 l1)]) rfl (fun _ _=>?_) (fun J_=>?_)
    ·
     rcases Bool.eq_false_or_eq_true j106_ with h108_ | h108_
     ·
      subst h108_
      replace H:=ite_y rfl H
      refine c_cond1 rfl rfl ?_
      refine c_seq rfl ?_
      refine r_ordb (l:=[0]) rfl (by kernel_rfl) ?_
      refine sA rfl ?_
      refine sQ ?_
      refine c_ret rfl ?_
      refine q_block_ret ?_
      refine q_then_ret ?_
      refine q_then_ret ?_
      refine q_block_ret ?_
      refine q_then_ret ?_
      have e_:=Option.some.inj H
      subst e_
      exact q_ret (vs:=[.bool false]) rfl (.tmp rfl .nil) [] rfl (by decide) (hX)
     ·
      subst h108_
      replace H:=ite_n (by decide) H
      refine c_cond0 rfl rfl ?_
      refine c_skip rfl ?_
      refine q_block ?_
      refine q_seq ?_
      refine r_ordb (l:=[0,1,2]) rfl (by kernel_rfl) ?_
      refine sM rfl ?_
      refine sR rfl ?_
      refine sA rfl ?_
      refine s_end ?_
      exact q_again (k0_,IntKind.wrap .i64 (x45_+1)) [1,2] H (Nat.lt_succ_of_le hko_0) (subF_spec ⟨rfl,rfl,rfl,rfl,rfl,rfl,trivial⟩) rfl (by decide)
    ·
     clear H
     have H:=e107_
     clear e107_
     refine r_ordb (l:=[0,1,2,3,4,5,6,7,8,9,10]) rfl (by kernel_rfl) ?_
     refine sV rfl (vLA (lfA p0 p1 p2 p3 p4 p5 p6) 1 Tryz.underlying23 SZ23 rfl) ?_
     refine sM rfl ?_
     refine sM rfl ?_
     refine sM rfl ?_
     obtain ⟨t109_,e110_,H⟩:=bind_s H
     refine s_e rfl rfl (eC [2] #[.agg (cfA p0 p1 p2 p3 p4 p5 p6),.slice A1 l1.length c1,.I t5_,.I x45_] Tryz.func91 (by decide) rfl (fun w ht=>sr21_marked_con p0 p1 p2 p3 p4 p5 p6 A1 c1 l1 t5_ x45_ t109_ e110_ w _)) ?_
     refine sM rfl ?_
     rcases Bool.eq_false_or_eq_true t109_ with h111_ | h111_
     ·
      subst h111_
      replace H:=ite_y rfl H
      refine sN rfl ?_
      refine sN rfl ?_
      refine sN rfl ?_
      refine sN rfl ?_
      refine sP rfl ?_
      refine s_end ?_
      have hq_0:=Option.some.inj H
      obtain ⟨ee_0,hq_1⟩:=Prod.mk.inj hq_0
      obtain ⟨ee_1,hq_2⟩:=Prod.mk.inj hq_1
      subst ee_0
      subst ee_1
      subst hq_2
      exact q_seq (c_frame (subF_spec (by exact ⟨rfl,rfl,rfl,rfl,rfl,rfl,rfl,rfl,rfl,rfl,rfl,rfl,rfl,rfl,rfl,rfl,rfl,rfl,rfl,rfl,rfl,rfl,rfl,rfl,rfl,rfl,rfl,rfl,trivial⟩)) (c_take [0,1,2] rfl (by decide) (J_ () trivial)))
     ·
      subst h111_
      replace H:=ite_n (by decide) H
      refine sG rfl (vM rfl) ?_
      refine sG rfl (vM rfl) ?_
      obtain ⟨t112_,e113_,H⟩:=bind_s H
      refine s_eg rfl rfl (eC [0] #[.slice A97_ t94_.length c98_,.U a2] Tryz.func93 (by decide) rfl (fun w ht=>sr21_in_con _ A97_ c98_ t94_ a2 t112_ e113_ w _)) ?_
      refine sG rfl (v_not rfl rfl) ?_
      refine sP rfl ?_
      refine s_end ?_
      have hq_0:=Option.some.inj H
      obtain ⟨ee_0,hq_1⟩:=Prod.mk.inj hq_0
      obtain ⟨ee_1,hq_2⟩:=Prod.mk.inj hq_1
      subst ee_0
      subst ee_1
      subst hq_2
      exact q_seq (c_frame (subF_spec (by exact ⟨rfl,rfl,rfl,rfl,rfl,rfl,rfl,rfl,rfl,rfl,rfl,rfl,rfl,rfl,rfl,rfl,rfl,rfl,rfl,rfl,rfl,rfl,rfl,rfl,rfl,rfl,rfl,rfl,trivial⟩)) (c_take [0,1,2] rfl (by decide) (J_ () trivial)))
   ·
    replace H:=ite_n (dec_f h74_) H
    refine cF h74_ rfl ?_
    refine c_exit (i:=0) rfl rfl ?_
    refine q_then_exit ?_
    refine q_then_exit ?_
    refine q_block_here rfl ?_
    refine q_seq ?_
    refine c_seq rfl ?_
    refine r_ordb (l:=[0,1,2,3,4,5,6,7]) rfl (by kernel_rfl) ?_
    refine sV rfl (vLA (lfA p0 p1 p2 p3 p4 p5 p6) 0 Tryz.underlying23 SZ23 rfl) ?_
    refine sM rfl ?_
    obtain ⟨⟨t120_,t121_⟩,e122_,H⟩:=bind_s H
    refine s_e rfl rfl (eC [1] #[.agg (cfA p0 p1 p2 p3 p4 p5 p6),.slice A1 l1.length c1,.I 0] Tryz.func16 (by decide) rfl (fun w ht=>sr21_Level_con _ p0 p1 p2 p3 p4 p5 p6 A1 c1 l1 0 t120_ t121_ e122_ w _)) ?_
    intro A123_ c124_
    refine sM rfl ?_
    refine sV rfl (v_ext rfl rfl rfl) ?_
    refine sV rfl (v_ext rfl rfl rfl) ?_
    refine sA rfl ?_
    refine sA rfl ?_
    refine sE rfl ?_
    refine r_ordb (l:=[0,1,2,3]) rfl (by kernel_rfl) ?_
    refine sM rfl ?_
    refine sM rfl ?_
    obtain ⟨t127_,e128_,H⟩:=bind_s H
    refine s_e rfl rfl (eC [0] #[.slice A123_ t120_.length c124_,.U a2] Tryz.func93 (by decide) rfl (fun w ht=>sr21_in_con _ A123_ c124_ t120_ a2 t127_ e128_ w _)) ?_
    refine sA rfl ?_
    refine sQ ?_
    refine c_ret rfl ?_
    have e_:=Option.some.inj H
    subst e_
    exact q_ret (vs:=[.bool t127_]) rfl (.tmp rfl .nil) [] rfl (by decide) (hX)
 ·
  clear H
  have H:=e25_
  clear e25_
  refine r_ordb (l:=[0,1,2,3,4,5,6,7,8,9,10,11]) rfl (by kernel_rfl) ?_
  refine sV rfl (vLA (lfA p0 p1 p2 p3 p4 p5 p6) 0 Tryz.underlying23 SZ23 rfl) ?_
  refine sM rfl ?_
  refine sM rfl ?_
  obtain ⟨t129_,e130_,H⟩:=bind_s H
  refine s_e rfl rfl (eC [1] #[.agg (cfA p0 p1 p2 p3 p4 p5 p6),.slice A1 l1.length c1,.I t5_,.I 2] Tryz.func46 (by decide) rfl (fun w ht=>sr21_at_con p0 p1 p2 p3 p4 p5 p6 A1 c1 l1 t5_ 2 t129_ e130_ w _)) ?_
  obtain ⟨t131_,e132_,H⟩:=bind_s H
  refine s_e rfl rfl (eC [] #[.U t129_] Tryz.func47 (by decide) rfl (fun w ht=>sr02_Dead_con t129_ t131_ e132_ w _)) ?_
  refine sM rfl ?_
  rcases Bool.eq_false_or_eq_true t131_ with h133_ | h133_
  ·
   subst h133_
   replace H:=ite_y rfl H
   refine sN rfl ?_
   refine sN rfl ?_
   refine sN rfl ?_
   refine sN rfl ?_
   refine sN rfl ?_
   refine sP rfl ?_
   refine s_end ?_
   have hq_0:=Option.some.inj H
   subst hq_0
   exact q_seq (c_frame (subF_spec (by exact ⟨rfl,rfl,rfl,rfl,rfl,rfl,trivial⟩)) (c_take [0,1] rfl (by decide) (J_ () trivial)))
  ·
   subst h133_
   replace H:=ite_n (by decide) H
   refine sG rfl (vLA (lfA p0 p1 p2 p3 p4 p5 p6) 0 Tryz.underlying23 SZ23 rfl) ?_
   refine sG rfl (vM rfl) ?_
   refine sG rfl (vM rfl) ?_
   obtain ⟨t134_,e135_,H⟩:=bind_s H
   refine s_eg rfl rfl (eC [1] #[.agg (cfA p0 p1 p2 p3 p4 p5 p6),.slice A1 l1.length c1,.I t5_,.I 5] Tryz.func46 (by decide) rfl (fun w ht=>sr21_at_con p0 p1 p2 p3 p4 p5 p6 A1 c1 l1 t5_ 5 t134_ e135_ w _)) ?_
   refine sG rfl (vR rfl) ?_
   refine sP rfl ?_
   refine s_end ?_
   have hq_0:=Option.some.inj H
   subst hq_0
   exact q_seq (c_frame (subF_spec (by exact ⟨rfl,rfl,rfl,rfl,rfl,rfl,trivial⟩)) (c_take [0,1] rfl (by decide) (J_ () trivial)))
def sr21_times.l0:Nat→Int→Int→Int→Int→Int→Int→Int→List Int→List Int→Int→Int→Int→Option Int
 | 0,_,_,_,_,_,_,_,_,_,_,_,_=>none
 | k+1,p0,p1,p2,p3,p4,p5,p6,l1,l2,a3,x34_,x35_=>(if (x35_:Int)<(l2.length:Int) then (if 0≤(x35_:Int) then (sr01_Index.f (rd l2 x35_)).bind fun t107_=>((sr01_Valid.f (rd l2 x35_)).bind fun t171_=>(if t171_=true then (sr01_Marked.f (rd l2 x35_)).bind fun t176_=>(if t176_=true then some (t171_,!t171_,false,true,true,true,true,true) else (if (t107_:Int)<1 then some (t171_,!t171_,false,false,false,decide ((t107_:Int)<1),true,true) else some (t171_,!t171_,false,false,false,decide ((t107_:Int)<1),false,decide ((t107_:Int) > p2)))) else some (t171_,!t171_,true,true,true,true,true,true)):Option (Bool × Bool × Bool × Bool × Bool × Bool × Bool × Bool)).bind fun (j134_,j135_,j136_,j137_,j138_,j139_,j140_,j141_)=>(if j141_=true then some (-1) else (sr21_at.f p0 p1 p2 p3 p4 p5 p6 l1 t107_ 0).bind fun t159_=>(sr01_Gen.f (rd l2 x35_)).bind fun t161_=>(sr02_Taken.f t161_).bind fun t163_=>(if (t159_:Int)=t163_ then (if (t107_:Int)=a3 then sr21_times.l0 k p0 p1 p2 p3 p4 p5 p6 l1 l2 a3 (IntKind.wrap .i64 (x34_+1)) (IntKind.wrap .i64 (x35_+1)) else sr21_times.l0 k p0 p1 p2 p3 p4 p5 p6 l1 l2 a3 x34_ (IntKind.wrap .i64 (x35_+1))) else some (-1))) else none) else some x34_)
def sr21_times.f (k:Nat) (p0:Int) (p1:Int) (p2:Int) (p3:Int) (p4:Int) (p5:Int) (p6:Int) (l1:List Int) (l2:List Int) (a3:Int):Option Int:=sr21_times.l0 k p0 p1 p2 p3 p4 p5 p6 l1 l2 a3 0 0
set_option maxRecDepth 100000 in
set_option maxHeartbeats 4000000 in
theorem sr21_times_con (k:Nat) (p0:Int) (p1:Int) (p2:Int) (p3:Int) (p4:Int) (p5:Int) (p6:Int) (A1:Option Addr) (c1:Nat) (l1:List Int) (A2:Option Addr) (c2:Nat) (l2:List Int) (a3:Int) (r0:Int) (h:sr21_times.f k p0 p1 p2 p3 p4 p5 p6 l1 l2 a3=some r0) (w0:World) (Hs:List Nat):Con Tryz.prog 45 #[.agg (cfA p0 p1 p2 p3 p4 p5 p6),.slice A1 l1.length c1,.slice A2 l2.length c2,.I a3] w0 Hs [.f (KU A1 c1 l1),.f (KU A2 c2 l2)] (fun X=>X (.I r0) []):=by
 refine con_enter (c:=bodyOf Tryz.f45) Tryz.func45 rfl (m:=63) rfl rfl rfl ?_
 intro X hX _
 have H:=h
 unfold sr21_times.f at H
 clear h
 refine c_seq rfl ?_
 refine r_ordb (l:=[0,1]) rfl (by kernel_rfl) ?_
 refine s_e rfl rfl (e_box rfl rfl rfl rfl) ?_
 intro b2_
 refine sA rfl ?_
 refine sE rfl ?_
 refine r_ordb (l:=[0]) rfl (by kernel_rfl) ?_
 refine sA rfl ?_
 refine sE rfl ?_
 refine c_seq rfl ?_
 refine r_ordb (l:=[0]) rfl (by kernel_rfl) ?_
 refine sA rfl ?_
 refine sQ ?_
 refine c_block rfl ?_
 refine c_loop (σ:=Nat × Int × Int) (fun (k,x34_,x35_)=>sr21_times.l0 k p0 p1 p2 p3 p4 p5 p6 l1 l2 a3 x34_ x35_=some r0) (fun (k,x34_,x35_)=>k) (fun (k,x34_,x35_)=>[(1,.slice A1 l1.length c1),(2,.slice A2 l2.length c2),(3,.I a3),(4,.P b2_),(8,.I 0),(9,.I x34_),(10,.I x35_)]) (fun (k,x34_,x35_)=>[.b b2_ (.cells (cfA p0 p1 p2 p3 p4 p5 p6) 23 (0,0)),.f (KU A1 c1 l1),.f (KU A2 c2 l2)]) (k,0,0) [0,1,2] rfl H (subF_spec ⟨rfl,rfl,rfl,rfl,rfl,rfl,rfl,trivial⟩) rfl (by decide) ?_
 rintro ⟨k0_,x34_,x35_⟩ hs68_
 clear H
 have H:sr21_times.l0 k0_ p0 p1 p2 p3 p4 p5 p6 l1 l2 a3 x34_ x35_=some r0:=hs68_
 try clear hs68_
 rcases k0_ with _ | k0_
 ·exact none_no (show none=_ from H)
 unfold sr21_times.l0 at H
 have hko_0:k0_≤k0_:=Nat.le_refl _
 refine c_seq rfl ?_
 refine c_seq rfl ?_
 refine r_ordb (l:=[0,1,2,3]) rfl (by kernel_rfl) ?_
 refine sM rfl ?_
 refine sM rfl ?_
 refine sV rfl (v_len rfl rfl rfl Tryz.underlying24 rfl rfl) ?_
 refine sR rfl ?_
 refine sQ ?_
 rcases Bool.eq_false_or_eq_true (decide ((x35_:Int)<(l2.length:Int))) with h72_ | h72_
 ·
  replace H:=ite_y (dec_t h72_) H
  refine cT h72_ rfl ?_
  refine kQ rfl ?_
  refine c_seq rfl ?_
  refine c_block rfl ?_
  refine c_seq rfl ?_
  refine r_ordb (l:=[0,1,2,3,4,5]) rfl (by kernel_rfl) ?_
  refine sM rfl ?_
  refine sM rfl ?_
  obtain ⟨n106_,H⟩:=ite_no H
  refine sV rfl (v_iaK (i:=2) rfl Tryz.underlying24 SZ41 rfl rfl rfl rfl n106_ (dec_t h72_)) ?_
  refine sV rfl (v_ldK (v := .U (rd l2 x35_)) 0 2 rfl Tryz.underlying41 rfl rfl rfl rfl n106_ (dec_t h72_) (fun w K h=>h)) ?_
  obtain ⟨t107_,e108_,H⟩:=bind_s H
  refine s_e rfl rfl (eC [] #[.U (rd l2 x35_)] Tryz.func17 (by decide) rfl (fun w ht=>sr01_Index_con (rd l2 x35_) t107_ e108_ w _)) ?_
  refine sA rfl ?_
  refine sE rfl ?_
  obtain ⟨⟨j134_,j135_,j136_,j137_,j138_,j139_,j140_,j141_⟩,e142_,H⟩:=bind_s H
  refine c_join (β:=Unit) (fun _=>True) (fun _=>[(1,.slice A1 l1.length c1),(2,.slice A2 l2.length c2),(3,.I a3),(4,.P b2_),(8,.I 0),(9,.I x34_),(10,.I x35_),(12,.I x35_),(13,.slice A2 l2.length c2),(14,.I (l2.length:Int)),(15,.bool (decide ((x35_:Int)<(l2.length:Int)))),(18,.slice A2 l2.length c2),(19,.I x35_),(20,.pointer (some (at0 A2 x35_ 1))),(21,.U (rd l2 x35_)),(22,.I t107_),(11,.I t107_),(23,.slice A2 l2.length c2),(24,.I x35_),(25,.pointer (some (at0 A2 x35_ 1))),(26,.U (rd l2 x35_)),(27,.bool j134_),(28,.bool j135_),(29,.bool j136_),(35,.bool j137_),(36,.bool j138_),(39,.bool j139_),(40,.bool j140_),(45,.bool j141_)]) (fun _=>[.b b2_ (.cells (cfA p0 p1 p2 p3 p4 p5 p6) 23 (0,0)),.f (KU A1 c1 l1),.f (KU A2 c2 l2)]) rfl (fun _ _=>?_) (fun J_=>?_)
  ·
   rcases Bool.eq_false_or_eq_true j141_ with h143_ | h143_
   ·
    subst h143_
    replace H:=ite_y rfl H
    refine c_cond1 rfl rfl ?_
    refine c_seq rfl ?_
    refine r_ordb (l:=[0]) rfl (by kernel_rfl) ?_
    refine sA rfl ?_
    refine sQ ?_
    refine c_ret rfl ?_
    refine q_then_ret ?_
    refine q_block_ret ?_
    refine q_then_ret ?_
    refine q_then_ret ?_
    refine q_block_ret ?_
    refine q_then_ret ?_
    have e_:=Option.some.inj H
    subst e_
    exact q_ret (vs:=[.I (-1)]) rfl (.tmp rfl .nil) [] rfl (by decide) (hX)
   ·
    subst h143_
    replace H:=ite_n (by decide) H
    refine c_cond0 rfl rfl ?_
    refine kQ rfl ?_
    refine c_seq rfl ?_
    refine c_seq rfl ?_
    obtain ⟨t159_,e160_,H⟩:=bind_s H
    obtain ⟨t161_,e162_,H⟩:=bind_s H
    obtain ⟨t163_,e164_,H⟩:=bind_s H
    refine r_any [.b b2_ (.cells (cfA p0 p1 p2 p3 p4 p5 p6) 23 (0,0)),.f (KU A1 c1 l1),.f (KU A2 c2 l2)] (by kernel_rfl) rfl (by kernel_rfl) (mem_pick (idx:=[0,1,2]) rfl) ?_
    refine aV 0 rfl (by kernel_rfl) (vLA (lfA p0 p1 p2 p3 p4 p5 p6) 0 Tryz.underlying23 SZ23 rfl) ?_
    refine aV 1 rfl (by kernel_rfl) (vM rfl) ?_
    refine aV 2 rfl (by kernel_rfl) (vM rfl) ?_
    refine aV 4 rfl (by kernel_rfl) (vM rfl) ?_
    refine aV 5 rfl (by kernel_rfl) (vM rfl) ?_
    refine aV 6 rfl (by kernel_rfl) (v_iaK (i:=2) rfl Tryz.underlying24 SZ41 rfl rfl rfl rfl n106_ (dec_t h72_)) ?_
    refine aV 7 rfl (by kernel_rfl) (v_ldK (v := .U (rd l2 x35_)) 0 2 rfl Tryz.underlying41 rfl rfl rfl rfl n106_ (dec_t h72_) (fun w K h=>h)) ?_
    refine a_1 (i:=3) (by kernel_rfl) ?_
    refine i_e rfl rfl (eC [1] #[.agg (cfA p0 p1 p2 p3 p4 p5 p6),.slice A1 l1.length c1,.I t107_,.I 0] Tryz.func46 (by decide) rfl (fun w ht=>sr21_at_con p0 p1 p2 p3 p4 p5 p6 A1 c1 l1 t107_ 0 t159_ e160_ w _)) ?_
    refine ⟨(mem_pick (idx:=[0,1,2]) rfl),?_⟩
    refine a_1 (i:=8) (by kernel_rfl) ?_
    refine i_e rfl rfl (eC [] #[.U (rd l2 x35_)] Tryz.func19 (by decide) rfl (fun w ht=>sr01_Gen_con (rd l2 x35_) t161_ e162_ w _)) ?_
    refine ⟨(mem_pick (idx:=[0,1,2]) rfl),?_⟩
    refine a_1 (i:=9) (by kernel_rfl) ?_
    refine i_e rfl rfl (eC [] #[.I t161_] Tryz.func18 (by decide) rfl (fun w ht=>sr02_Taken_con t161_ t163_ e164_ w _)) ?_
    refine ⟨(mem_pick (idx:=[0,1,2]) rfl),?_⟩
    refine aV 10 rfl (by kernel_rfl) (vR rfl) ?_
    refine a_end (by kernel_rfl) ?_
    refine q_seq ?_
    rcases Bool.eq_false_or_eq_true ((t159_:Int) != t163_) with h165_ | h165_
    ·
     replace H:=ite_n (ibne_t h165_) H
     refine cT h165_ rfl ?_
     refine c_seq rfl ?_
     refine r_ordb (l:=[0]) rfl (by kernel_rfl) ?_
     refine sA rfl ?_
     refine sQ ?_
     refine c_ret rfl ?_
     refine q_then_ret ?_
     refine q_block_ret ?_
     refine q_then_ret ?_
     refine q_then_ret ?_
     refine q_block_ret ?_
     refine q_then_ret ?_
     have e_:=Option.some.inj H
     subst e_
     exact q_ret (vs:=[.I (-1)]) rfl (.tmp rfl .nil) [] rfl (by decide) (hX)
    ·
     replace H:=ite_y (ibne_f h165_) H
     refine cF h165_ rfl ?_
     refine kQ rfl ?_
     refine c_seq rfl ?_
     refine r_ordb (l:=[0,1,2]) rfl (by kernel_rfl) ?_
     refine sM rfl ?_
     refine sM rfl ?_
     refine sR rfl ?_
     refine sQ ?_
     rcases Bool.eq_false_or_eq_true ((t107_:Int) == a3) with h168_ | h168_
     ·
      replace H:=ite_y (ibeq_t h168_) H
      refine cT h168_ rfl ?_
      refine r_ordb (l:=[0,1,2]) rfl (by kernel_rfl) ?_
      refine sM rfl ?_
      refine sR rfl ?_
      refine sA rfl ?_
      refine s_end ?_
      refine q_block ?_
      refine q_seq ?_
      refine r_ordb (l:=[0,1,2]) rfl (by kernel_rfl) ?_
      refine sM rfl ?_
      refine sR rfl ?_
      refine sA rfl ?_
      refine s_end ?_
      exact q_again (k0_,IntKind.wrap .i64 (x34_+1),IntKind.wrap .i64 (x35_+1)) [0,1,2] H (Nat.lt_succ_of_le hko_0) (subF_spec ⟨rfl,rfl,rfl,rfl,rfl,rfl,rfl,trivial⟩) rfl (by decide)
     ·
      replace H:=ite_n (ibeq_f h168_) H
      refine cF h168_ rfl ?_
      refine c_skip rfl ?_
      refine q_block ?_
      refine q_seq ?_
      refine r_ordb (l:=[0,1,2]) rfl (by kernel_rfl) ?_
      refine sM rfl ?_
      refine sR rfl ?_
      refine sA rfl ?_
      refine s_end ?_
      exact q_again (k0_,x34_,IntKind.wrap .i64 (x35_+1)) [0,1,2] H (Nat.lt_succ_of_le hko_0) (subF_spec ⟨rfl,rfl,rfl,rfl,rfl,rfl,rfl,trivial⟩) rfl (by decide)
  ·
   clear H
   have H:=e142_
   clear e142_
   refine r_ordb (l:=[0,1,2,3,4,5,6,7,8,9,10,11,12,13,14,15,16,17,18,19,20,21,22]) rfl (by kernel_rfl) ?_
   refine sM rfl ?_
   refine sM rfl ?_
   refine sV rfl (v_iaK (i:=2) rfl Tryz.underlying24 SZ41 rfl rfl rfl rfl n106_ (dec_t h72_)) ?_
   refine sV rfl (v_ldK (v := .U (rd l2 x35_)) 0 2 rfl Tryz.underlying41 rfl rfl rfl rfl n106_ (dec_t h72_) (fun w K h=>h)) ?_
   obtain ⟨t171_,e172_,H⟩:=bind_s H
   refine s_e rfl rfl (eC [] #[.U (rd l2 x35_)] Tryz.func52 (by decide) rfl (fun w ht=>sr01_Valid_con (rd l2 x35_) t171_ e172_ w _)) ?_
   refine sV rfl (v_not rfl rfl) ?_
   refine sM rfl ?_
   rcases Bool.eq_false_or_eq_true (!t171_) with h173_ | h173_
   ·
    replace H:=ite_n (not_t (bnot_t h173_)) H
    refine s_splitv (d:=29) (t:=!t171_) rfl (fun _=>?_) (fun h174_=>absurd (h174_.symm.trans h173_) (by decide))
    refine sN rfl ?_
    refine sN rfl ?_
    refine sN rfl ?_
    refine sN rfl ?_
    refine sN rfl ?_
    refine sP rfl ?_
    refine sM rfl ?_
    refine sN rfl ?_
    refine sN rfl ?_
    refine sP rfl ?_
    refine sM rfl ?_
    refine sN rfl ?_
    refine sN rfl ?_
    refine sN rfl ?_
    refine sN rfl ?_
    refine sP rfl ?_
    refine s_end ?_
    have hq_0:=Option.some.inj H
    obtain ⟨ee_0,hq_1⟩:=Prod.mk.inj hq_0
    obtain ⟨ee_1,hq_2⟩:=Prod.mk.inj hq_1
    obtain ⟨ee_2,hq_3⟩:=Prod.mk.inj hq_2
    obtain ⟨ee_3,hq_4⟩:=Prod.mk.inj hq_3
    obtain ⟨ee_4,hq_5⟩:=Prod.mk.inj hq_4
    obtain ⟨ee_5,hq_6⟩:=Prod.mk.inj hq_5
    obtain ⟨ee_6,hq_7⟩:=Prod.mk.inj hq_6
    subst ee_0
    subst ee_1
    subst ee_2
    subst ee_3
    subst ee_4
    subst ee_5
    subst ee_6
    subst hq_7
    exact q_seq (c_frame (subF_spec (by exact ⟨rfl,rfl,rfl,rfl,rfl,rfl,rfl,rfl,rfl,rfl,rfl,rfl,rfl,rfl,rfl,rfl,rfl,rfl,rfl,rfl,rfl,rfl,rfl,rfl,rfl,rfl,rfl,rfl,rfl,trivial⟩)) (c_take [0,1,2] rfl (by decide) (J_ () trivial)))
   ·
    replace H:=ite_y (bnot_f h173_) H
    refine s_splitv (d:=29) (t:=!t171_) rfl (fun h175_=>absurd (h175_.symm.trans h173_) (by decide)) (fun _=>?_)
    refine sG rfl (vM rfl) ?_
    refine sG rfl (vM rfl) ?_
    refine sG rfl (v_iaK (i:=2) rfl Tryz.underlying24 SZ41 rfl rfl rfl rfl n106_ (dec_t h72_)) ?_
    refine sG rfl (v_ldK (v := .U (rd l2 x35_)) 0 2 rfl Tryz.underlying41 rfl rfl rfl rfl n106_ (dec_t h72_) (fun w K h=>h)) ?_
    obtain ⟨t176_,e177_,H⟩:=bind_s H
    refine s_eg rfl rfl (eC [] #[.U (rd l2 x35_)] Tryz.func94 (by decide) rfl (fun w ht=>sr01_Marked_con (rd l2 x35_) t176_ e177_ w _)) ?_
    refine sP rfl ?_
    refine sM rfl ?_
    rcases Bool.eq_false_or_eq_true t176_ with h178_ | h178_
    ·
     subst h178_
     replace H:=ite_y rfl H
     refine sN rfl ?_
     refine sN rfl ?_
     refine sP rfl ?_
     refine sM rfl ?_
     refine sN rfl ?_
     refine sN rfl ?_
     refine sN rfl ?_
     refine sN rfl ?_
     refine sP rfl ?_
     refine s_end ?_
     have hq_0:=Option.some.inj H
     obtain ⟨ee_0,hq_1⟩:=Prod.mk.inj hq_0
     obtain ⟨ee_1,hq_2⟩:=Prod.mk.inj hq_1
     obtain ⟨ee_2,hq_3⟩:=Prod.mk.inj hq_2
     obtain ⟨ee_3,hq_4⟩:=Prod.mk.inj hq_3
     obtain ⟨ee_4,hq_5⟩:=Prod.mk.inj hq_4
     obtain ⟨ee_5,hq_6⟩:=Prod.mk.inj hq_5
     obtain ⟨ee_6,hq_7⟩:=Prod.mk.inj hq_6
     subst ee_0
     subst ee_1
     subst ee_2
     subst ee_3
     subst ee_4
     subst ee_5
     subst ee_6
     subst hq_7
     exact q_seq (c_frame (subF_spec (by exact ⟨rfl,rfl,rfl,rfl,rfl,rfl,rfl,rfl,rfl,rfl,rfl,rfl,rfl,rfl,rfl,rfl,rfl,rfl,rfl,rfl,rfl,rfl,rfl,rfl,rfl,rfl,rfl,rfl,rfl,trivial⟩)) (c_take [0,1,2] rfl (by decide) (J_ () trivial)))
    ·
     subst h178_
     replace H:=ite_n (by decide) H
     refine sG rfl (vM rfl) ?_
     refine sG rfl (vR rfl) ?_
     refine sP rfl ?_
     refine sM rfl ?_
     rcases Bool.eq_false_or_eq_true (decide ((t107_:Int)<1)) with h179_ | h179_
     ·
      replace H:=ite_y (dec_t h179_) H
      refine s_splitv (d:=40) (t:=decide ((t107_:Int)<1)) rfl (fun _=>?_) (fun h180_=>absurd (h180_.symm.trans h179_) (by decide))
      refine sN rfl ?_
      refine sN rfl ?_
      refine sN rfl ?_
      refine sN rfl ?_
      refine sP rfl ?_
      refine s_end ?_
      have hq_0:=Option.some.inj H
      obtain ⟨ee_0,hq_1⟩:=Prod.mk.inj hq_0
      obtain ⟨ee_1,hq_2⟩:=Prod.mk.inj hq_1
      obtain ⟨ee_2,hq_3⟩:=Prod.mk.inj hq_2
      obtain ⟨ee_3,hq_4⟩:=Prod.mk.inj hq_3
      obtain ⟨ee_4,hq_5⟩:=Prod.mk.inj hq_4
      obtain ⟨ee_5,hq_6⟩:=Prod.mk.inj hq_5
      obtain ⟨ee_6,hq_7⟩:=Prod.mk.inj hq_6
      subst ee_0
      subst ee_1
      subst ee_2
      subst ee_3
      subst ee_4
      subst ee_5
      subst ee_6
      subst hq_7
      exact q_seq (c_frame (subF_spec (by exact ⟨rfl,rfl,rfl,rfl,rfl,rfl,rfl,rfl,rfl,rfl,rfl,rfl,rfl,rfl,rfl,rfl,rfl,rfl,rfl,rfl,rfl,rfl,rfl,rfl,rfl,rfl,rfl,rfl,rfl,trivial⟩)) (c_take [0,1,2] rfl (by decide) (J_ () trivial)))
     ·
      replace H:=ite_n (dec_f h179_) H
      refine s_splitv (d:=40) (t:=decide ((t107_:Int)<1)) rfl (fun h181_=>absurd (h181_.symm.trans h179_) (by decide)) (fun _=>?_)
      refine sG rfl (vM rfl) ?_
      refine sG rfl (vF Tryz.underlying23 SZ3 rfl) ?_
      refine sG rfl (vL 0 Tryz.underlying3 rfl) ?_
      refine sG rfl (vR rfl) ?_
      refine sP rfl ?_
      refine s_end ?_
      have hq_0:=Option.some.inj H
      obtain ⟨ee_0,hq_1⟩:=Prod.mk.inj hq_0
      obtain ⟨ee_1,hq_2⟩:=Prod.mk.inj hq_1
      obtain ⟨ee_2,hq_3⟩:=Prod.mk.inj hq_2
      obtain ⟨ee_3,hq_4⟩:=Prod.mk.inj hq_3
      obtain ⟨ee_4,hq_5⟩:=Prod.mk.inj hq_4
      obtain ⟨ee_5,hq_6⟩:=Prod.mk.inj hq_5
      obtain ⟨ee_6,hq_7⟩:=Prod.mk.inj hq_6
      subst ee_0
      subst ee_1
      subst ee_2
      subst ee_3
      subst ee_4
      subst ee_5
      subst ee_6
      subst hq_7
      exact q_seq (c_frame (subF_spec (by exact ⟨rfl,rfl,rfl,rfl,rfl,rfl,rfl,rfl,rfl,rfl,rfl,rfl,rfl,rfl,rfl,rfl,rfl,rfl,rfl,rfl,rfl,rfl,rfl,rfl,rfl,rfl,rfl,rfl,rfl,trivial⟩)) (c_take [0,1,2] rfl (by decide) (J_ () trivial)))
 ·
  replace H:=ite_n (dec_f h72_) H
  refine cF h72_ rfl ?_
  refine c_exit (i:=0) rfl rfl ?_
  refine q_then_exit ?_
  refine q_then_exit ?_
  refine q_block_here rfl ?_
  refine q_seq ?_
  refine c_seq rfl ?_
  refine r_ordb (l:=[0,1]) rfl (by kernel_rfl) ?_
  refine sM rfl ?_
  refine sA rfl ?_
  refine sQ ?_
  refine c_ret rfl ?_
  have e_:=Option.some.inj H
  subst e_
  exact q_ret (vs:=[.I x34_]) rfl (.tmp rfl .nil) [] rfl (by decide) (hX)
def sr02_State.f (a0:Int):Option Int:=some (IntKind.wrap .i64 (Int.tmod a0 4))
set_option maxRecDepth 100000 in
set_option maxHeartbeats 4000000 in
theorem sr02_State_con (a0:Int) (r0:Int) (h:sr02_State.f a0=some r0) (w0:World) (Hs:List Nat):Con Tryz.prog 14 #[.U a0] w0 Hs [] (fun X=>X (.I r0) []):=by
 refine con_enter (c:=bodyOf Tryz.f14) Tryz.func14 rfl (m:=6) rfl rfl rfl ?_
 intro X hX _
 have H:=h
 unfold sr02_State.f at H
 clear h
 refine c_seq rfl ?_
 refine r_ordb (l:=[0]) rfl (by kernel_rfl) ?_
 refine sA rfl ?_
 refine sE rfl ?_
 refine r_ordb (l:=[0,1,2,3]) rfl (by kernel_rfl) ?_
 refine sM rfl ?_
 refine sV rfl (v_rem rfl rfl rfl (by decide)) ?_
 refine sV rfl (v_conv rfl Tryz.underlying41 Tryz.underlying3 rfl) ?_
 refine sA rfl ?_
 refine sQ ?_
 refine c_ret rfl ?_
 have e_:=Option.some.inj H
 subst e_
 exact q_ret (vs:=[.I (IntKind.wrap .i64 (Int.tmod a0 4))]) rfl (.tmp rfl .nil) [] rfl (by decide) (hX)
mutual
def sr21_Rest.l1:Nat→Int→Int→Int→Int→Int→Int→Int→List Int→List S47→Int→Int→Option Bool
 | 0,_,_,_,_,_,_,_,_,_,_,_=>none
 | k+1,p0,p1,p2,p3,p4,p5,p6,l1,l2,x50_,x102_=>(if (x102_:Int)<p1 then (sr04_Reserved.f p0 p1 p2 p3 p4 p5 p6 x50_ x102_).bind fun t130_=>(if 0≤(t130_:Int) then (if (t130_:Int)<(l1.length:Int) then (if (rd l1 t130_:Int)=0 then sr21_Rest.l1 k p0 p1 p2 p3 p4 p5 p6 l1 l2 x50_ (IntKind.wrap .i64 (x102_+1)) else some false) else none) else none) else sr21_Rest.l0 k p0 p1 p2 p3 p4 p5 p6 l1 l2 (IntKind.wrap .i64 (x50_+1)))
def sr21_Rest.l3:Nat→Int→Int→Int→Int→Int→Int→Int→List Int→List S47→Int→List Int→Int→Option Bool
 | 0,_,_,_,_,_,_,_,_,_,_,_,_=>none
 | k+1,p0,p1,p2,p3,p4,p5,p6,l1,l2,x175_,t223_,x236_=>(if (x236_:Int)<(t223_.length:Int) then (if 0≤(x236_:Int) then (sr21_settled.f k p0 p1 p2 p3 p4 p5 p6 l1 (rd t223_ x236_)).bind fun t262_=>(if t262_=true then sr21_Rest.l3 k p0 p1 p2 p3 p4 p5 p6 l1 l2 x175_ t223_ (IntKind.wrap .i64 (x236_+1)) else some false) else none) else sr21_Rest.l2 k p0 p1 p2 p3 p4 p5 p6 l1 l2 (IntKind.wrap .i64 (x175_+1)))
def sr21_Rest.l5:Nat→Int→Int→Int→Int→Int→Int→Int→List Int→List Int→Int→Option Bool
 | 0,_,_,_,_,_,_,_,_,_,_=>none
 | k+1,p0,p1,p2,p3,p4,p5,p6,l1,xs288_,x355_=>(if (x355_:Int)≤p2 then (sr21_times.f k p0 p1 p2 p3 p4 p5 p6 l1 xs288_ x355_).bind fun t397_=>(sr21_at.f p0 p1 p2 p3 p4 p5 p6 l1 x355_ 0).bind fun t403_=>(sr02_State.f t403_).bind fun t405_=>((if (t397_:Int)<0 then some (true,true,true,true) else (if (t397_:Int) > 1 then some (false,decide ((t397_:Int) > 1),true,true) else some (false,decide ((t397_:Int) > 1),false,!(((t405_:Int) == 1) == ((t397_:Int) == 1))))):Option (Bool × Bool × Bool × Bool)).bind fun (j413_,j414_,j415_,j416_)=>(if j416_=true then some false else sr21_Rest.l5 k p0 p1 p2 p3 p4 p5 p6 l1 xs288_ (IntKind.wrap .i64 (x355_+1))) else some true)
def sr21_Rest.l4:Nat→Int→Int→Int→Int→Int→Int→Int→List Int→List S47→Int→List Int→Option Bool
 | 0,_,_,_,_,_,_,_,_,_,_,_=>none
 | k+1,p0,p1,p2,p3,p4,p5,p6,l1,l2,x290_,xs288_=>(if (x290_:Int)<(l2.length:Int) then (if 0≤(x290_:Int) then (if xs288_.length<17592186044416 then sr21_Rest.l4 k p0 p1 p2 p3 p4 p5 p6 l1 l2 (IntKind.wrap .i64 (x290_+1)) (xs288_ ++ [(rd_T47 l2 x290_).f0]) else none) else none) else sr21_Rest.l5 k p0 p1 p2 p3 p4 p5 p6 l1 xs288_ 1)
def sr21_Rest.l2:Nat→Int→Int→Int→Int→Int→Int→Int→List Int→List S47→Int→Option Bool
 | 0,_,_,_,_,_,_,_,_,_,_=>none
 | k+1,p0,p1,p2,p3,p4,p5,p6,l1,l2,x175_=>(if (x175_:Int)<p3 then (sr21_Level.f k p0 p1 p2 p3 p4 p5 p6 l1 x175_).bind fun (t223_,t224_)=>sr21_Rest.l3 k p0 p1 p2 p3 p4 p5 p6 l1 l2 x175_ t223_ 0 else (sr21_Level.f k p0 p1 p2 p3 p4 p5 p6 l1 0).bind fun (t274_,t275_)=>sr21_Rest.l4 k p0 p1 p2 p3 p4 p5 p6 l1 l2 0 t274_)
def sr21_Rest.l0:Nat→Int→Int→Int→Int→Int→Int→Int→List Int→List S47→Int→Option Bool
 | 0,_,_,_,_,_,_,_,_,_,_=>none
 | k+1,p0,p1,p2,p3,p4,p5,p6,l1,l2,x50_=>(if (x50_:Int)<p0 then sr21_Rest.l1 k p0 p1 p2 p3 p4 p5 p6 l1 l2 x50_ 0 else sr21_Rest.l2 k p0 p1 p2 p3 p4 p5 p6 l1 l2 0)
end
def sr21_Rest.f (k:Nat) (p0:Int) (p1:Int) (p2:Int) (p3:Int) (p4:Int) (p5:Int) (p6:Int) (l1:List Int) (l2:List S47):Option Bool:=(sr21_Right.f k p0 p1 p2 p3 p4 p5 p6 l1).bind fun t10_=>(if t10_=true then sr21_Rest.l0 k p0 p1 p2 p3 p4 p5 p6 l1 l2 0 else some false)
set_option maxRecDepth 100000 in
set_option maxHeartbeats 4000000 in
theorem sr21_Rest_con (k:Nat) (p0:Int) (p1:Int) (p2:Int) (p3:Int) (p4:Int) (p5:Int) (p6:Int) (A1:Option Addr) (c1:Nat) (l1:List Int) (A2:Option Addr) (c2:Nat) (l2:List S47) (r0:Bool) (h:sr21_Rest.f k p0 p1 p2 p3 p4 p5 p6 l1 l2=some r0) (w0:World) (Hs:List Nat):Con Tryz.prog 11 #[.agg (cfA p0 p1 p2 p3 p4 p5 p6),.slice A1 l1.length c1,.slice A2 l2.length c2] w0 Hs [.f (KU A1 c1 l1),.f (KC k47 A2 c2 l2)] (fun X=>X (.bool r0) []):=by
 refine con_enter (c:=bodyOf Tryz.f11) Tryz.func11 rfl (m:=119) rfl rfl rfl ?_
 intro X hX _
 have H:=h
 unfold sr21_Rest.f at H
 clear h
 refine c_seq rfl ?_
 refine r_ordb (l:=[0,1]) rfl (by kernel_rfl) ?_
 refine s_e rfl rfl (e_box rfl rfl rfl rfl) ?_
 intro b2_
 refine sA rfl ?_
 refine sE rfl ?_
 refine c_seq rfl ?_
 refine r_ordb (l:=[0,1,2,3]) rfl (by kernel_rfl) ?_
 refine sV rfl (vLA (lfA p0 p1 p2 p3 p4 p5 p6) 0 Tryz.underlying23 SZ23 rfl) ?_
 refine sM rfl ?_
 obtain ⟨t10_,e11_,H⟩:=bind_s H
 refine s_e rfl rfl (eC [1] #[.agg (cfA p0 p1 p2 p3 p4 p5 p6),.slice A1 l1.length c1] Tryz.func42 (by decide) rfl (fun w ht=>sr21_Right_con _ p0 p1 p2 p3 p4 p5 p6 A1 c1 l1 t10_ e11_ w _)) ?_
 refine sV rfl (v_not rfl rfl) ?_
 refine sQ ?_
 rcases Bool.eq_false_or_eq_true (!t10_) with h12_ | h12_
 ·
  replace H:=ite_n (not_t (bnot_t h12_)) H
  refine cT h12_ rfl ?_
  refine c_seq rfl ?_
  refine r_ordb (l:=[0]) rfl (by kernel_rfl) ?_
  refine sA rfl ?_
  refine sQ ?_
  refine c_ret rfl ?_
  refine q_then_ret ?_
  have e_:=Option.some.inj H
  subst e_
  exact q_ret (vs:=[.bool false]) rfl (.tmp rfl .nil) [] rfl (by decide) (hX)
 ·
  replace H:=ite_y (bnot_f h12_) H
  refine cF h12_ rfl ?_
  refine kQ rfl ?_
  refine c_seq rfl ?_
  refine c_seq rfl ?_
  refine r_ordb (l:=[0]) rfl (by kernel_rfl) ?_
  refine sA rfl ?_
  refine sQ ?_
  refine c_block rfl ?_
  refine c_loop (σ:=Nat × Int) (fun (k,x50_)=>sr21_Rest.l0 k p0 p1 p2 p3 p4 p5 p6 l1 l2 x50_=some r0) (fun (k,x50_)=>k) (fun (k,x50_)=>[(1,.slice A1 l1.length c1),(2,.slice A2 l2.length c2),(3,.P b2_),(6,.bool false),(7,.I x50_)]) (fun (k,x50_)=>[.b b2_ (.cells (cfA p0 p1 p2 p3 p4 p5 p6) 23 (0,0)),.f (KU A1 c1 l1),.f (KC k47 A2 c2 l2)]) (k,0) [0,1,2] rfl H (subF_spec ⟨rfl,rfl,rfl,rfl,rfl,trivial⟩) rfl (by decide) ?_
  rintro ⟨k0_,x50_⟩ hs86_
  clear H
  have H:sr21_Rest.l0 k0_ p0 p1 p2 p3 p4 p5 p6 l1 l2 x50_=some r0:=hs86_
  try clear hs86_
  rcases k0_ with _ | k0_
  ·exact none_no (show none=_ from H)
  unfold sr21_Rest.l0 at H
  have hko_0:k0_≤k0_:=Nat.le_refl _
  refine c_seq rfl ?_
  refine c_seq rfl ?_
  refine r_ordb (l:=[0,1,2,3]) rfl (by kernel_rfl) ?_
  refine sM rfl ?_
  refine sV rfl (vF Tryz.underlying23 SZ3 rfl) ?_
  refine sV rfl (vL 0 Tryz.underlying3 rfl) ?_
  refine sR rfl ?_
  refine sQ ?_
  rcases Bool.eq_false_or_eq_true (decide ((x50_:Int)<p0)) with h90_ | h90_
  ·
   replace H:=ite_y (dec_t h90_) H
   refine cT h90_ rfl ?_
   refine kQ rfl ?_
   refine c_seq rfl ?_
   refine c_block rfl ?_
   refine c_seq rfl ?_
   refine r_ordb (l:=[0]) rfl (by kernel_rfl) ?_
   refine sA rfl ?_
   refine sQ ?_
   refine c_block rfl ?_
   refine c_loop (σ:=Nat × Int) (fun (k,x102_)=>sr21_Rest.l1 k p0 p1 p2 p3 p4 p5 p6 l1 l2 x50_ x102_=some r0∧k≤k0_) (fun (k,x102_)=>k) (fun (k,x102_)=>[(1,.slice A1 l1.length c1),(2,.slice A2 l2.length c2),(3,.P b2_),(6,.bool false),(7,.I x50_),(23,.I x50_),(24,.P b2_),(25,.I p0),(26,.bool (decide ((x50_:Int)<p0))),(8,.I x102_)]) (fun (k,x102_)=>[.b b2_ (.cells (cfA p0 p1 p2 p3 p4 p5 p6) 23 (0,0)),.f (KU A1 c1 l1),.f (KC k47 A2 c2 l2)]) (k0_,0) [0,1,2] rfl ⟨H,hko_0⟩ (subF_spec ⟨rfl,rfl,rfl,rfl,rfl,rfl,rfl,rfl,rfl,rfl,trivial⟩) rfl (by decide) ?_
   rintro ⟨k1_,x102_⟩ hs113_
   clear H
   obtain ⟨H,hko_0⟩:sr21_Rest.l1 k1_ p0 p1 p2 p3 p4 p5 p6 l1 l2 x50_ x102_=some r0∧k1_≤k0_:=hs113_
   try clear hs113_
   rcases k1_ with _ | k1_
   ·exact none_no (show none=_ from H)
   unfold sr21_Rest.l1 at H
   replace hko_0:=Nat.le_of_succ_le hko_0
   have hko_1:k1_≤k1_:=Nat.le_refl _
   refine c_seq rfl ?_
   refine c_seq rfl ?_
   refine r_ordb (l:=[0,1,2,3]) rfl (by kernel_rfl) ?_
   refine sM rfl ?_
   refine sV rfl (vF Tryz.underlying23 SZ3 rfl) ?_
   refine sV rfl (vL 0 Tryz.underlying3 rfl) ?_
   refine sR rfl ?_
   refine sQ ?_
   rcases Bool.eq_false_or_eq_true (decide ((x102_:Int)<p1)) with h117_ | h117_
   ·
    replace H:=ite_y (dec_t h117_) H
    refine cT h117_ rfl ?_
    refine kQ rfl ?_
    refine c_seq rfl ?_
    refine c_block rfl ?_
    refine c_seq rfl ?_
    refine r_ordb (l:=[0,1,2,3,4,5,6,7]) rfl (by kernel_rfl) ?_
    refine sM rfl ?_
    refine sV rfl (vLA (lfA p0 p1 p2 p3 p4 p5 p6) 0 Tryz.underlying23 SZ23 rfl) ?_
    refine sM rfl ?_
    refine sM rfl ?_
    obtain ⟨t130_,e131_,H⟩:=bind_s H
    refine s_e rfl rfl (eC [] #[.agg (cfA p0 p1 p2 p3 p4 p5 p6),.I x50_,.I x102_] Tryz.func43 (by decide) rfl (fun w ht=>sr04_Reserved_con p0 p1 p2 p3 p4 p5 p6 x50_ x102_ t130_ e131_ w _)) ?_
    obtain ⟨n132_,H⟩:=ite_no H
    obtain ⟨n133_,H⟩:=ite_no H
    refine sV rfl (v_iaK (i:=1) rfl Tryz.underlying24 SZ41 rfl rfl rfl rfl n132_ n133_) ?_
    refine sV rfl (v_ldK (v := .U (rd l1 t130_)) 0 1 rfl Tryz.underlying41 rfl rfl rfl rfl n132_ n133_ (fun w K h=>h)) ?_
    refine sR rfl ?_
    refine sQ ?_
    rcases Bool.eq_false_or_eq_true ((rd l1 t130_:Int) != 0) with h134_ | h134_
    ·
     replace H:=ite_n (ibne_t h134_) H
     refine cT h134_ rfl ?_
     refine c_seq rfl ?_
     refine r_ordb (l:=[0]) rfl (by kernel_rfl) ?_
     refine sA rfl ?_
     refine sQ ?_
     refine c_ret rfl ?_
     refine q_block_ret ?_
     refine q_then_ret ?_
     refine q_then_ret ?_
     refine q_block_ret ?_
     refine q_block_ret ?_
     refine q_then_ret ?_
     refine q_then_ret ?_
     refine q_block_ret ?_
     refine q_then_ret ?_
     have e_:=Option.some.inj H
     subst e_
     exact q_ret (vs:=[.bool false]) rfl (.tmp rfl .nil) [] rfl (by decide) (hX)
    ·
     replace H:=ite_y (ibne_f h134_) H
     refine cF h134_ rfl ?_
     refine c_skip rfl ?_
     refine q_block ?_
     refine q_seq ?_
     refine r_ordb (l:=[0,1,2]) rfl (by kernel_rfl) ?_
     refine sM rfl ?_
     refine sR rfl ?_
     refine sA rfl ?_
     refine s_end ?_
     exact q_again (k1_,IntKind.wrap .i64 (x102_+1)) [0,1,2] ⟨H,hko_0⟩ (Nat.lt_succ_of_le hko_1) (subF_spec ⟨rfl,rfl,rfl,rfl,rfl,rfl,rfl,rfl,rfl,rfl,trivial⟩) rfl (by decide)
   ·
    replace H:=ite_n (dec_f h117_) H
    refine cF h117_ rfl ?_
    refine c_exit (i:=2) rfl rfl ?_
    refine q_then_exit ?_
    refine q_then_exit ?_
    refine q_block_here rfl ?_
    refine q_block ?_
    refine q_seq ?_
    refine r_ordb (l:=[0,1,2]) rfl (by kernel_rfl) ?_
    refine sM rfl ?_
    refine sR rfl ?_
    refine sA rfl ?_
    refine s_end ?_
    exact q_again (k1_,IntKind.wrap .i64 (x50_+1)) [0,1,2] H (Nat.lt_succ_of_le hko_0) (subF_spec ⟨rfl,rfl,rfl,rfl,rfl,trivial⟩) rfl (by decide)
  ·
   replace H:=ite_n (dec_f h90_) H
   refine cF h90_ rfl ?_
   refine c_exit (i:=0) rfl rfl ?_
   refine q_then_exit ?_
   refine q_then_exit ?_
   refine q_block_here rfl ?_
   refine q_seq ?_
   refine c_seq rfl ?_
   refine c_seq rfl ?_
   refine r_ordb (l:=[0]) rfl (by kernel_rfl) ?_
   refine sA rfl ?_
   refine sQ ?_
   refine c_block rfl ?_
   refine c_loop (σ:=Nat × Int) (fun (k,x175_)=>sr21_Rest.l2 k p0 p1 p2 p3 p4 p5 p6 l1 l2 x175_=some r0) (fun (k,x175_)=>k) (fun (k,x175_)=>[(1,.slice A1 l1.length c1),(2,.slice A2 l2.length c2),(3,.P b2_),(6,.bool false),(9,.I x175_)]) (fun (k,x175_)=>[.b b2_ (.cells (cfA p0 p1 p2 p3 p4 p5 p6) 23 (0,0)),.f (KU A1 c1 l1),.f (KC k47 A2 c2 l2)]) (k0_,0) [0,1,2] rfl H (subF_spec ⟨rfl,rfl,rfl,rfl,rfl,trivial⟩) rfl (by decide) ?_
   rintro ⟨k2_,x175_⟩ hs212_
   clear H
   have H:sr21_Rest.l2 k2_ p0 p1 p2 p3 p4 p5 p6 l1 l2 x175_=some r0:=hs212_
   try clear hs212_
   rcases k2_ with _ | k2_
   ·exact none_no (show none=_ from H)
   unfold sr21_Rest.l2 at H
   have hko_2:k2_≤k2_:=Nat.le_refl _
   refine c_seq rfl ?_
   refine c_seq rfl ?_
   refine r_ordb (l:=[0,1,2,3]) rfl (by kernel_rfl) ?_
   refine sM rfl ?_
   refine sV rfl (vF Tryz.underlying23 SZ3 rfl) ?_
   refine sV rfl (vL 0 Tryz.underlying3 rfl) ?_
   refine sR rfl ?_
   refine sQ ?_
   rcases Bool.eq_false_or_eq_true (decide ((x175_:Int)<p3)) with h216_ | h216_
   ·
    replace H:=ite_y (dec_t h216_) H
    refine cT h216_ rfl ?_
    refine kQ rfl ?_
    refine c_seq rfl ?_
    refine c_block rfl ?_
    refine c_seq rfl ?_
    refine r_ordb (l:=[0,1,2,3,4,5,6,7,8]) rfl (by kernel_rfl) ?_
    refine sV rfl (vLA (lfA p0 p1 p2 p3 p4 p5 p6) 0 Tryz.underlying23 SZ23 rfl) ?_
    refine sM rfl ?_
    refine sM rfl ?_
    obtain ⟨⟨t223_,t224_⟩,e225_,H⟩:=bind_s H
    refine s_e rfl rfl (eC [1] #[.agg (cfA p0 p1 p2 p3 p4 p5 p6),.slice A1 l1.length c1,.I x175_] Tryz.func16 (by decide) rfl (fun w ht=>sr21_Level_con _ p0 p1 p2 p3 p4 p5 p6 A1 c1 l1 x175_ t223_ t224_ e225_ w _)) ?_
    intro A226_ c227_
    refine sM rfl ?_
    refine sV rfl (v_ext rfl rfl rfl) ?_
    refine sV rfl (v_ext rfl rfl rfl) ?_
    refine sA rfl ?_
    refine sA rfl ?_
    refine sE rfl ?_
    refine r_ordb (l:=[0]) rfl (by kernel_rfl) ?_
    refine sA rfl ?_
    refine sQ ?_
    refine c_block rfl ?_
    refine c_loop (σ:=Nat × Int) (fun (k,x236_)=>sr21_Rest.l3 k p0 p1 p2 p3 p4 p5 p6 l1 l2 x175_ t223_ x236_=some r0∧k≤k2_) (fun (k,x236_)=>k) (fun (k,x236_)=>[(1,.slice A1 l1.length c1),(2,.slice A2 l2.length c2),(3,.P b2_),(6,.bool false),(9,.I x175_),(43,.I x175_),(44,.pointer (some ⟨b2_,3,none⟩)),(45,.I p3),(46,.bool (decide ((x175_:Int)<p3))),(50,.agg (cfA p0 p1 p2 p3 p4 p5 p6)),(51,.slice A1 l1.length c1),(52,.I x175_),(53,.tuple #[.slice A226_ t223_.length c227_,.U t224_]),(49,.tuple #[.slice A226_ t223_.length c227_,.U t224_]),(54,.slice A226_ t223_.length c227_),(55,.U t224_),(10,.slice A226_ t223_.length c227_),(12,.I x236_)]) (fun (k,x236_)=>[.f (KU A226_ c227_ t223_),.b b2_ (.cells (cfA p0 p1 p2 p3 p4 p5 p6) 23 (0,0)),.f (KU A1 c1 l1),.f (KC k47 A2 c2 l2)]) (k2_,0) [0,1,2,3] rfl ⟨H,hko_2⟩ (subF_spec ⟨rfl,rfl,rfl,rfl,rfl,rfl,rfl,rfl,rfl,rfl,rfl,rfl,rfl,rfl,rfl,rfl,rfl,rfl,trivial⟩) rfl (by decide) ?_
    rintro ⟨k3_,x236_⟩ hs246_
    clear H
    obtain ⟨H,hko_2⟩:sr21_Rest.l3 k3_ p0 p1 p2 p3 p4 p5 p6 l1 l2 x175_ t223_ x236_=some r0∧k3_≤k2_:=hs246_
    try clear hs246_
    rcases k3_ with _ | k3_
    ·exact none_no (show none=_ from H)
    unfold sr21_Rest.l3 at H
    replace hko_2:=Nat.le_of_succ_le hko_2
    have hko_3:k3_≤k3_:=Nat.le_refl _
    refine c_seq rfl ?_
    refine c_seq rfl ?_
    refine r_ordb (l:=[0,1,2,3]) rfl (by kernel_rfl) ?_
    refine sM rfl ?_
    refine sM rfl ?_
    refine sV rfl (v_len rfl rfl rfl Tryz.underlying24 rfl rfl) ?_
    refine sR rfl ?_
    refine sQ ?_
    rcases Bool.eq_false_or_eq_true (decide ((x236_:Int)<(t223_.length:Int))) with h250_ | h250_
    ·
     replace H:=ite_y (dec_t h250_) H
     refine cT h250_ rfl ?_
     refine kQ rfl ?_
     refine c_seq rfl ?_
     refine c_block rfl ?_
     refine c_seq rfl ?_
     obtain ⟨n261_,H⟩:=ite_no H
     obtain ⟨t262_,e263_,H⟩:=bind_s H
     refine r_any [.f (KU A226_ c227_ t223_),.b b2_ (.cells (cfA p0 p1 p2 p3 p4 p5 p6) 23 (0,0)),.f (KU A1 c1 l1),.f (KC k47 A2 c2 l2)] (by kernel_rfl) rfl (by kernel_rfl) (mem_pick (idx:=[0,1,2,3]) rfl) ?_
     refine aV 0 rfl (by kernel_rfl) (vLA (lfA p0 p1 p2 p3 p4 p5 p6) 1 Tryz.underlying23 SZ23 rfl) ?_
     refine aV 1 rfl (by kernel_rfl) (vM rfl) ?_
     refine aV 2 rfl (by kernel_rfl) (vM rfl) ?_
     refine aV 3 rfl (by kernel_rfl) (vM rfl) ?_
     refine aV 4 rfl (by kernel_rfl) (v_iaK (i:=0) rfl Tryz.underlying24 SZ41 rfl rfl rfl rfl n261_ (dec_t h250_)) ?_
     refine aV 5 rfl (by kernel_rfl) (v_ldK (v := .U (rd t223_ x236_)) 0 0 rfl Tryz.underlying41 rfl rfl rfl rfl n261_ (dec_t h250_) (fun w K h=>h)) ?_
     refine a_1 (i:=6) (by kernel_rfl) ?_
     refine i_e rfl rfl (eC [2] #[.agg (cfA p0 p1 p2 p3 p4 p5 p6),.slice A1 l1.length c1,.U (rd t223_ x236_)] Tryz.func44 (by decide) rfl (fun w ht=>sr21_settled_con _ p0 p1 p2 p3 p4 p5 p6 A1 c1 l1 (rd t223_ x236_) t262_ e263_ w _)) ?_
     refine ⟨(mem_pick (idx:=[0,1,2,3]) rfl),?_⟩
     refine aV 7 rfl (by kernel_rfl) (v_not rfl rfl) ?_
     refine a_end (by kernel_rfl) ?_
     refine q_seq ?_
     rcases Bool.eq_false_or_eq_true (!t262_) with h264_ | h264_
     ·
      replace H:=ite_n (not_t (bnot_t h264_)) H
      refine cT h264_ rfl ?_
      refine c_seq rfl ?_
      refine r_ordb (l:=[0]) rfl (by kernel_rfl) ?_
      refine sA rfl ?_
      refine sQ ?_
      refine c_ret rfl ?_
      refine q_block_ret ?_
      refine q_then_ret ?_
      refine q_then_ret ?_
      refine q_block_ret ?_
      refine q_block_ret ?_
      refine q_then_ret ?_
      refine q_then_ret ?_
      refine q_block_ret ?_
      refine q_then_ret ?_
      have e_:=Option.some.inj H
      subst e_
      exact q_ret (vs:=[.bool false]) rfl (.tmp rfl .nil) [] rfl (by decide) (hX)
     ·
      replace H:=ite_y (bnot_f h264_) H
      refine cF h264_ rfl ?_
      refine c_skip rfl ?_
      refine q_block ?_
      refine q_seq ?_
      refine r_ordb (l:=[0,1,2]) rfl (by kernel_rfl) ?_
      refine sM rfl ?_
      refine sR rfl ?_
      refine sA rfl ?_
      refine s_end ?_
      exact q_again (k3_,IntKind.wrap .i64 (x236_+1)) [0,1,2,3] ⟨H,hko_2⟩ (Nat.lt_succ_of_le hko_3) (subF_spec ⟨rfl,rfl,rfl,rfl,rfl,rfl,rfl,rfl,rfl,rfl,rfl,rfl,rfl,rfl,rfl,rfl,rfl,rfl,trivial⟩) rfl (by decide)
    ·
     replace H:=ite_n (dec_f h250_) H
     refine cF h250_ rfl ?_
     refine c_exit (i:=6) rfl rfl ?_
     refine q_then_exit ?_
     refine q_then_exit ?_
     refine q_block_here rfl ?_
     refine q_block ?_
     refine q_seq ?_
     refine r_ordb (l:=[0,1,2]) rfl (by kernel_rfl) ?_
     refine sM rfl ?_
     refine sR rfl ?_
     refine sA rfl ?_
     refine s_end ?_
     exact q_again (k3_,IntKind.wrap .i64 (x175_+1)) [1,2,3] H (Nat.lt_succ_of_le hko_2) (subF_spec ⟨rfl,rfl,rfl,rfl,rfl,trivial⟩) rfl (by decide)
   ·
    replace H:=ite_n (dec_f h216_) H
    refine cF h216_ rfl ?_
    refine c_exit (i:=4) rfl rfl ?_
    refine q_then_exit ?_
    refine q_then_exit ?_
    refine q_block_here rfl ?_
    refine q_seq ?_
    refine c_seq rfl ?_
    refine r_ordb (l:=[0,1,2,3,4,5,6,7]) rfl (by kernel_rfl) ?_
    refine sV rfl (vLA (lfA p0 p1 p2 p3 p4 p5 p6) 0 Tryz.underlying23 SZ23 rfl) ?_
    refine sM rfl ?_
    obtain ⟨⟨t274_,t275_⟩,e276_,H⟩:=bind_s H
    refine s_e rfl rfl (eC [1] #[.agg (cfA p0 p1 p2 p3 p4 p5 p6),.slice A1 l1.length c1,.I 0] Tryz.func16 (by decide) rfl (fun w ht=>sr21_Level_own _ p0 p1 p2 p3 p4 p5 p6 A1 c1 l1 0 t274_ t275_ e276_ w _)) ?_
    intro ro277_ hr278_
    refine sM rfl ?_
    refine sV rfl (v_ext rfl rfl rfl) ?_
    refine sV rfl (v_ext rfl rfl rfl) ?_
    refine sA rfl ?_
    refine sA rfl ?_
    refine sE rfl ?_
    refine c_seq rfl ?_
    refine r_ordb (l:=[0]) rfl (by kernel_rfl) ?_
    refine sA rfl ?_
    refine sQ ?_
    refine c_block rfl ?_
    refine c_loop (σ:=Nat × Int × Ro × List Int) (fun (k,x290_,ro287_,xs288_)=>sr21_Rest.l4 k p0 p1 p2 p3 p4 p5 p6 l1 l2 x290_ xs288_=some r0∧ORow 1 (fun x=>[.U x]) ro287_ xs288_) (fun (k,x290_,ro287_,xs288_)=>k) (fun (k,x290_,ro287_,xs288_)=>[(1,.slice A1 l1.length c1),(2,.slice A2 l2.length c2),(3,.P b2_),(6,.bool false),(13,.slice (OA ro287_) xs288_.length (OC ro287_)),(15,.I x290_)]) (fun (k,x290_,ro287_,xs288_)=>[OE 41 ro287_,.b b2_ (.cells (cfA p0 p1 p2 p3 p4 p5 p6) 23 (0,0)),.f (KU A1 c1 l1),.f (KC k47 A2 c2 l2)]) (k2_,0,ro277_,t274_) [0,1,2,3] rfl ⟨H,hr278_⟩ (subF_spec ⟨rfl,rfl,rfl,rfl,rfl,rfl,trivial⟩) rfl (by decide) ?_
    rintro ⟨k4_,x290_,ro287_,xs288_⟩ hs300_
    clear H
    obtain ⟨H,hr289_⟩:sr21_Rest.l4 k4_ p0 p1 p2 p3 p4 p5 p6 l1 l2 x290_ xs288_=some r0∧ORow 1 (fun x=>[.U x]) ro287_ xs288_:=hs300_
    try clear hs300_
    rcases k4_ with _ | k4_
    ·exact none_no (show none=_ from H)
    unfold sr21_Rest.l4 at H
    have hko_4:k4_≤k4_:=Nat.le_refl _
    refine c_seq rfl ?_
    refine c_seq rfl ?_
    refine r_ordb (l:=[0,1,2,3]) rfl (by kernel_rfl) ?_
    refine sM rfl ?_
    refine sM rfl ?_
    refine sV rfl (v_len rfl rfl rfl Tryz.underlying25 rfl rfl) ?_
    refine sR rfl ?_
    refine sQ ?_
    rcases Bool.eq_false_or_eq_true (decide ((x290_:Int)<(l2.length:Int))) with h304_ | h304_
    ·
     replace H:=ite_y (dec_t h304_) H
     refine cT h304_ rfl ?_
     refine kQ rfl ?_
     refine c_seq rfl ?_
     refine c_block rfl ?_
     refine r_ordb (l:=[0,1,2,3,4,5,6,7,8]) rfl (by kernel_rfl) ?_
     refine sM rfl ?_
     refine sM rfl ?_
     refine sM rfl ?_
     obtain ⟨n312_,H⟩:=ite_no H
     refine sV rfl (v_iaK (i:=3) rfl Tryz.underlying25 SZ47 rfl rfl rfl rfl n312_ (dec_t h304_)) ?_
     refine sV rfl (v_fax rfl Tryz.underlying47 rfl SZ41 rfl) ?_
     refine sV rfl (v_ldKf (v := .U ((rd_T47 l2 x290_).f0)) z47 [.U ((rd_T47 l2 x290_).f0),.U ((rd_T47 l2 x290_).f1),.U ((rd_T47 l2 x290_).f2)] 3 rfl Tryz.underlying41 rfl rfl rfl rfl n312_ (dec_t h304_) (fun w K h=>k47_open h) rfl) ?_
     refine s_e rfl rfl (e_bslice #[.U ((rd_T47 l2 x290_).f0)] (.U 0) rfl rfl rfl Tryz.underlying24 SZ41 ZR41 (by decide) rfl (by kernel_rfl)) ?_
     intro b313_
     obtain ⟨n314_,H⟩:=ite_no H
     refine s_e rfl rfl (e_appO (enc:=(fun x=>[.U x])) (v:=((rd_T47 l2 x290_).f0)) (xs:=xs288_) (ro:=ro287_) (z:=(.U 0)) (m:=1) (bytes:=8) (i:=0) (j:=1) rfl rfl rfl rfl rfl rfl Tryz.underlying24 (by kernel_rfl) rfl (by decide) rfl rfl hr289_ rfl rfl rfl rfl (by simp [Value.oneCell']) (by omega) (by simp only [maxLen]; omega)) ?_
     intro ro315_ hr316_ sm317_
     refine sA rfl ?_
     refine s_end ?_
     refine q_block ?_
     refine q_seq ?_
     refine r_ordb (l:=[0,1,2]) rfl (by kernel_rfl) ?_
     refine sM rfl ?_
     refine sR rfl ?_
     refine sA rfl ?_
     refine s_end ?_
     exact q_again (k4_,IntKind.wrap .i64 (x290_+1),ro315_,(xs288_ ++ [(rd_T47 l2 x290_).f0])) [1,2,3,4] ⟨H,hr316_⟩ (Nat.lt_succ_of_le hko_4) (subF_spec ⟨rfl,rfl,rfl,rfl,rfl,rfl,trivial⟩) rfl (by decide)
    ·
     replace H:=ite_n (dec_f h304_) H
     refine cF h304_ rfl ?_
     refine c_exit (i:=8) rfl rfl ?_
     refine q_then_exit ?_
     refine q_then_exit ?_
     refine q_block_here rfl ?_
     refine q_seq ?_
     refine c_seq rfl ?_
     refine c_seq rfl ?_
     refine r_ordb (l:=[0]) rfl (by kernel_rfl) ?_
     refine sA rfl ?_
     refine sQ ?_
     refine c_block rfl ?_
     refine c_giveO (flat_int .u64) hr289_ [0,1,2,3] rfl (by decide) rfl ?_
     refine c_loop (σ:=Nat × Int) (fun (k,x355_)=>sr21_Rest.l5 k p0 p1 p2 p3 p4 p5 p6 l1 xs288_ x355_=some r0) (fun (k,x355_)=>k) (fun (k,x355_)=>[(1,.slice A1 l1.length c1),(3,.P b2_),(6,.bool false),(13,.slice (OA ro287_) xs288_.length (OC ro287_)),(16,.I x355_)]) (fun (k,x355_)=>[.f (KU (OA ro287_) (OC ro287_) xs288_),.b b2_ (.cells (cfA p0 p1 p2 p3 p4 p5 p6) 23 (0,0)),.f (KU A1 c1 l1),.f (KC k47 A2 c2 l2)]) (k4_,1) [0,1,2,3] rfl H (subF_spec ⟨rfl,rfl,rfl,rfl,rfl,trivial⟩) rfl (by decide) ?_
     rintro ⟨k5_,x355_⟩ hs374_
     clear H
     have H:sr21_Rest.l5 k5_ p0 p1 p2 p3 p4 p5 p6 l1 xs288_ x355_=some r0:=hs374_
     try clear hs374_
     rcases k5_ with _ | k5_
     ·exact none_no (show none=_ from H)
     unfold sr21_Rest.l5 at H
     have hko_5:k5_≤k5_:=Nat.le_refl _
     refine c_seq rfl ?_
     refine c_seq rfl ?_
     refine r_ordb (l:=[0,1,2,3]) rfl (by kernel_rfl) ?_
     refine sM rfl ?_
     refine sV rfl (vF Tryz.underlying23 SZ3 rfl) ?_
     refine sV rfl (vL 1 Tryz.underlying3 rfl) ?_
     refine sR rfl ?_
     refine sQ ?_
     rcases Bool.eq_false_or_eq_true (decide ((x355_:Int)≤p2)) with h378_ | h378_
     ·
      replace H:=ite_y (dec_t h378_) H
      refine cT h378_ rfl ?_
      refine kQ rfl ?_
      refine c_seq rfl ?_
      refine c_block rfl ?_
      refine c_seq rfl ?_
      refine r_ordb (l:=[0,1,2,3,4,5]) rfl (by kernel_rfl) ?_
      refine sV rfl (vLA (lfA p0 p1 p2 p3 p4 p5 p6) 1 Tryz.underlying23 SZ23 rfl) ?_
      refine sM rfl ?_
      refine sM rfl ?_
      refine sM rfl ?_
      obtain ⟨t397_,e398_,H⟩:=bind_s H
      refine s_e rfl rfl (eC [2,0] #[.agg (cfA p0 p1 p2 p3 p4 p5 p6),.slice A1 l1.length c1,.slice (OA ro287_) xs288_.length (OC ro287_),.I x355_] Tryz.func45 (by decide) rfl (fun w ht=>sr21_times_con _ p0 p1 p2 p3 p4 p5 p6 A1 c1 l1 (OA ro287_) (OC ro287_) xs288_ x355_ t397_ e398_ w _)) ?_
      refine sA rfl ?_
      refine sE rfl ?_
      refine r_ordb (l:=[0,1,2,3,4,5,6]) rfl (by kernel_rfl) ?_
      refine sV rfl (vLA (lfA p0 p1 p2 p3 p4 p5 p6) 1 Tryz.underlying23 SZ23 rfl) ?_
      refine sM rfl ?_
      refine sM rfl ?_
      obtain ⟨t403_,e404_,H⟩:=bind_s H
      refine s_e rfl rfl (eC [2] #[.agg (cfA p0 p1 p2 p3 p4 p5 p6),.slice A1 l1.length c1,.I x355_,.I 0] Tryz.func46 (by decide) rfl (fun w ht=>sr21_at_con p0 p1 p2 p3 p4 p5 p6 A1 c1 l1 x355_ 0 t403_ e404_ w _)) ?_
      obtain ⟨t405_,e406_,H⟩:=bind_s H
      refine s_e rfl rfl (eC [] #[.U t403_] Tryz.func14 (by decide) rfl (fun w ht=>sr02_State_con t403_ t405_ e406_ w _)) ?_
      refine sR rfl ?_
      refine sA rfl ?_
      refine sQ ?_
      obtain ⟨⟨j413_,j414_,j415_,j416_⟩,e417_,H⟩:=bind_s H
      refine c_join (β:=Unit) (fun _=>True) (fun _=>[(1,.slice A1 l1.length c1),(3,.P b2_),(6,.bool false),(13,.slice (OA ro287_) xs288_.length (OC ro287_)),(16,.I x355_),(90,.I x355_),(91,.pointer (some ⟨b2_,2,none⟩)),(92,.I p2),(93,.bool (decide ((x355_:Int)≤p2))),(96,.agg (cfA p0 p1 p2 p3 p4 p5 p6)),(97,.slice A1 l1.length c1),(98,.slice (OA ro287_) xs288_.length (OC ro287_)),(99,.I x355_),(100,.I t397_),(17,.I t397_),(101,.agg (cfA p0 p1 p2 p3 p4 p5 p6)),(102,.slice A1 l1.length c1),(103,.I x355_),(104,.U t403_),(105,.I t405_),(106,.bool ((t405_:Int) == 1)),(18,.bool ((t405_:Int) == 1)),(107,.I t397_),(108,.bool (decide ((t397_:Int)<0))),(109,.bool j413_),(112,.bool j414_),(113,.bool j415_),(118,.bool j416_)]) (fun _=>[.f (KU (OA ro287_) (OC ro287_) xs288_),.b b2_ (.cells (cfA p0 p1 p2 p3 p4 p5 p6) 23 (0,0)),.f (KU A1 c1 l1),.f (KC k47 A2 c2 l2)]) rfl (fun _ _=>?_) (fun J_=>?_)
      ·
       rcases Bool.eq_false_or_eq_true j416_ with h418_ | h418_
       ·
        subst h418_
        replace H:=ite_y rfl H
        refine c_cond1 rfl rfl ?_
        refine c_seq rfl ?_
        refine r_ordb (l:=[0]) rfl (by kernel_rfl) ?_
        refine sA rfl ?_
        refine sQ ?_
        refine c_ret rfl ?_
        refine q_block_ret ?_
        refine q_then_ret ?_
        refine q_then_ret ?_
        refine q_block_ret ?_
        refine q_then_ret ?_
        have e_:=Option.some.inj H
        subst e_
        exact q_ret (vs:=[.bool false]) rfl (.tmp rfl .nil) [] rfl (by decide) (hX)
       ·
        subst h418_
        replace H:=ite_n (by decide) H
        refine c_cond0 rfl rfl ?_
        refine c_skip rfl ?_
        refine q_block ?_
        refine q_seq ?_
        refine r_ordb (l:=[0,1,2]) rfl (by kernel_rfl) ?_
        refine sM rfl ?_
        refine sR rfl ?_
        refine sA rfl ?_
        refine s_end ?_
        exact q_again (k5_,IntKind.wrap .i64 (x355_+1)) [0,1,2,3] H (Nat.lt_succ_of_le hko_5) (subF_spec ⟨rfl,rfl,rfl,rfl,rfl,trivial⟩) rfl (by decide)
      ·
       clear H
       have H:=e417_
       clear e417_
       refine r_ordb (l:=[0,1,2,3,4,5,6,7,8,9,10,11]) rfl (by kernel_rfl) ?_
       refine sM rfl ?_
       refine sR rfl ?_
       refine sM rfl ?_
       rcases Bool.eq_false_or_eq_true (decide ((t397_:Int)<0)) with h419_ | h419_
       ·
        replace H:=ite_y (dec_t h419_) H
        refine s_splitv (d:=109) (t:=decide ((t397_:Int)<0)) rfl (fun _=>?_) (fun h420_=>absurd (h420_.symm.trans h419_) (by decide))
        refine sN rfl ?_
        refine sN rfl ?_
        refine sP rfl ?_
        refine sM rfl ?_
        refine sN rfl ?_
        refine sN rfl ?_
        refine sN rfl ?_
        refine sN rfl ?_
        refine sP rfl ?_
        refine s_end ?_
        have hq_0:=Option.some.inj H
        obtain ⟨ee_0,hq_1⟩:=Prod.mk.inj hq_0
        obtain ⟨ee_1,hq_2⟩:=Prod.mk.inj hq_1
        obtain ⟨ee_2,hq_3⟩:=Prod.mk.inj hq_2
        subst ee_0
        subst ee_1
        subst ee_2
        subst hq_3
        exact q_seq (c_frame (subF_spec (by exact ⟨rfl,rfl,rfl,rfl,rfl,rfl,rfl,rfl,rfl,rfl,rfl,rfl,rfl,rfl,rfl,rfl,rfl,rfl,rfl,rfl,rfl,rfl,rfl,rfl,rfl,rfl,rfl,rfl,trivial⟩)) (c_take [0,1,2,3] rfl (by decide) (J_ () trivial)))
       ·
        replace H:=ite_n (dec_f h419_) H
        refine s_splitv (d:=109) (t:=decide ((t397_:Int)<0)) rfl (fun h421_=>absurd (h421_.symm.trans h419_) (by decide)) (fun _=>?_)
        refine sG rfl (vM rfl) ?_
        refine sG rfl (vR rfl) ?_
        refine sP rfl ?_
        refine sM rfl ?_
        rcases Bool.eq_false_or_eq_true (decide ((t397_:Int) > 1)) with h422_ | h422_
        ·
         replace H:=ite_y (dec_t h422_) H
         refine s_splitv (d:=113) (t:=decide ((t397_:Int) > 1)) rfl (fun _=>?_) (fun h423_=>absurd (h423_.symm.trans h422_) (by decide))
         refine sN rfl ?_
         refine sN rfl ?_
         refine sN rfl ?_
         refine sN rfl ?_
         refine sP rfl ?_
         refine s_end ?_
         have hq_0:=Option.some.inj H
         obtain ⟨ee_0,hq_1⟩:=Prod.mk.inj hq_0
         obtain ⟨ee_1,hq_2⟩:=Prod.mk.inj hq_1
         obtain ⟨ee_2,hq_3⟩:=Prod.mk.inj hq_2
         subst ee_0
         subst ee_1
         subst ee_2
         subst hq_3
         exact q_seq (c_frame (subF_spec (by exact ⟨rfl,rfl,rfl,rfl,rfl,rfl,rfl,rfl,rfl,rfl,rfl,rfl,rfl,rfl,rfl,rfl,rfl,rfl,rfl,rfl,rfl,rfl,rfl,rfl,rfl,rfl,rfl,rfl,trivial⟩)) (c_take [0,1,2,3] rfl (by decide) (J_ () trivial)))
        ·
         replace H:=ite_n (dec_f h422_) H
         refine s_splitv (d:=113) (t:=decide ((t397_:Int) > 1)) rfl (fun h424_=>absurd (h424_.symm.trans h422_) (by decide)) (fun _=>?_)
         refine sG rfl (vM rfl) ?_
         refine sG rfl (vM rfl) ?_
         refine sG rfl (vR rfl) ?_
         refine sG rfl (v_eqnB rfl Tryz.underlying4 rfl rfl) ?_
         refine sP rfl ?_
         refine s_end ?_
         have hq_0:=Option.some.inj H
         obtain ⟨ee_0,hq_1⟩:=Prod.mk.inj hq_0
         obtain ⟨ee_1,hq_2⟩:=Prod.mk.inj hq_1
         obtain ⟨ee_2,hq_3⟩:=Prod.mk.inj hq_2
         subst ee_0
         subst ee_1
         subst ee_2
         subst hq_3
         exact q_seq (c_frame (subF_spec (by exact ⟨rfl,rfl,rfl,rfl,rfl,rfl,rfl,rfl,rfl,rfl,rfl,rfl,rfl,rfl,rfl,rfl,rfl,rfl,rfl,rfl,rfl,rfl,rfl,rfl,rfl,rfl,rfl,rfl,trivial⟩)) (c_take [0,1,2,3] rfl (by decide) (J_ () trivial)))
     ·
      replace H:=ite_n (dec_f h378_) H
      refine cF h378_ rfl ?_
      refine c_exit (i:=10) rfl rfl ?_
      refine q_then_exit ?_
      refine q_then_exit ?_
      refine q_block_here rfl ?_
      refine q_seq ?_
      refine c_seq rfl ?_
      refine r_ordb (l:=[0]) rfl (by kernel_rfl) ?_
      refine sA rfl ?_
      refine sQ ?_
      refine c_ret rfl ?_
      have e_:=Option.some.inj H
      subst e_
      exact q_ret (vs:=[.bool true]) rfl (.tmp rfl .nil) [] rfl (by decide) (hX)
end Go.Eng
namespace Go.Eng
open Go.Proofs Go.RowKit Go.Proofs.YtgbcnokeaaabfaaGreatW.PrintWords
set_option linter.unusedVariables false
set_option linter.unusedSimpArgs false
def sr22_at.f (p0:Int) (p1:Int) (p2:Int) (p3:Int) (p4:Int) (p5:Int) (p6:Int) (l1:List Int) (a2:Int) (a3:Int):Option Int:=(sr04_Cell.f p0 p1 p2 p3 p4 p5 p6 a2 a3).bind fun t7_=>(if 0≤(t7_:Int) then (if (t7_:Int)<(l1.length:Int) then some (rd l1 t7_) else none) else none)
set_option maxRecDepth 100000 in
set_option maxHeartbeats 4000000 in
theorem sr22_at_con (p0:Int) (p1:Int) (p2:Int) (p3:Int) (p4:Int) (p5:Int) (p6:Int) (A1:Option Addr) (c1:Nat) (l1:List Int) (a2:Int) (a3:Int) (r0:Int) (h:sr22_at.f p0 p1 p2 p3 p4 p5 p6 l1 a2 a3=some r0) (w0:World) (Hs:List Nat):Con Tryz.prog 38 #[.agg (cfA p0 p1 p2 p3 p4 p5 p6),.slice A1 l1.length c1,.I a2,.I a3] w0 Hs [.f (KU A1 c1 l1)] (fun X=>X (.U r0) []):=by
 refine con_enter (c:=bodyOf Tryz.f38) Tryz.func38 rfl (m:=16) rfl rfl rfl ?_
 intro X hX _
 have H:=h
 unfold sr22_at.f at H
 clear h
 refine c_seq rfl ?_
 refine r_ordb (l:=[0,1]) rfl (by kernel_rfl) ?_
 refine s_e rfl rfl (e_box rfl rfl rfl rfl) ?_
 intro b2_
 refine sA rfl ?_
 refine sE rfl ?_
 refine r_ordb (l:=[0,1,2,3,4,5,6,7]) rfl (by kernel_rfl) ?_
 refine sM rfl ?_
 refine sV rfl (vLA (lfA p0 p1 p2 p3 p4 p5 p6) 0 Tryz.underlying23 SZ23 rfl) ?_
 refine sM rfl ?_
 refine sM rfl ?_
 obtain ⟨t7_,e8_,H⟩:=bind_s H
 refine s_e rfl rfl (eC [] #[.agg (cfA p0 p1 p2 p3 p4 p5 p6),.I a2,.I a3] Tryz.func15 (by decide) rfl (fun w ht=>sr04_Cell_con p0 p1 p2 p3 p4 p5 p6 a2 a3 t7_ e8_ w _)) ?_
 obtain ⟨n9_,H⟩:=ite_no H
 obtain ⟨n10_,H⟩:=ite_no H
 refine sV rfl (v_iaK (i:=1) rfl Tryz.underlying24 SZ41 rfl rfl rfl rfl n9_ n10_) ?_
 refine sV rfl (v_ldK (v := .U (rd l1 t7_)) 0 1 rfl Tryz.underlying41 rfl rfl rfl rfl n9_ n10_ (fun w K h=>h)) ?_
 refine sA rfl ?_
 refine sQ ?_
 refine c_ret rfl ?_
 have e_:=Option.some.inj H
 subst e_
 exact q_ret (vs:=[.U (rd l1 t7_)]) rfl (.tmp rfl .nil) [] rfl (by decide) (hX)
def sr02_Gen.f (a0:Int):Option Int:=(if (IntKind.wrap .u64 (Int.tdiv a0 4):Int) > 1073741823 then some 1073741823 else some (IntKind.wrap .i64 (IntKind.wrap .u64 (Int.tdiv a0 4))))
set_option maxRecDepth 100000 in
set_option maxHeartbeats 4000000 in
theorem sr02_Gen_con (a0:Int) (r0:Int) (h:sr02_Gen.f a0=some r0) (w0:World) (Hs:List Nat):Con Tryz.prog 90 #[.U a0] w0 Hs [] (fun X=>X (.I r0) []):=by
 refine con_enter (c:=bodyOf Tryz.f90) Tryz.func90 rfl (m:=9) rfl rfl rfl ?_
 intro X hX _
 have H:=h
 unfold sr02_Gen.f at H
 clear h
 refine c_seq rfl ?_
 refine r_ordb (l:=[0]) rfl (by kernel_rfl) ?_
 refine sA rfl ?_
 refine sE rfl ?_
 refine c_seq rfl ?_
 refine r_ordb (l:=[0,1,2]) rfl (by kernel_rfl) ?_
 refine sM rfl ?_
 refine sV rfl (v_div rfl rfl rfl (by decide)) ?_
 refine sR rfl ?_
 refine sQ ?_
 rcases Bool.eq_false_or_eq_true (decide ((IntKind.wrap .u64 (Int.tdiv a0 4):Int) > 1073741823)) with h4_ | h4_
 replace H:=ite_y (dec_t h4_) H
 refine cT h4_ rfl ?_
 refine c_seq rfl ?_
 refine r_ordb (l:=[0]) rfl (by kernel_rfl) ?_
 refine sA rfl ?_
 refine sQ ?_
 refine c_ret rfl ?_
 refine q_then_ret ?_
 have e_:=Option.some.inj H
 subst e_
 exact q_ret (vs:=[.I 1073741823]) rfl (.tmp rfl .nil) [] rfl (by decide) (hX)
 replace H:=ite_n (dec_f h4_) H
 refine cF h4_ rfl ?_
 refine kQ rfl ?_
 refine c_seq rfl ?_
 refine r_ordb (l:=[0,1,2,3]) rfl (by kernel_rfl) ?_
 refine sM rfl ?_
 refine sV rfl (v_div rfl rfl rfl (by decide)) ?_
 refine sV rfl (v_conv rfl Tryz.underlying41 Tryz.underlying3 rfl) ?_
 refine sA rfl ?_
 refine sQ ?_
 refine c_ret rfl ?_
 have e_:=Option.some.inj H
 subst e_
 exact q_ret (vs:=[.I (IntKind.wrap .i64 (IntKind.wrap .u64 (Int.tdiv a0 4)))]) rfl (.tmp rfl .nil) [] rfl (by decide) (hX)
def sr02_After.f (a0:Int) (a1:Int):Option Int:=((if (a0:Int)<0 then some 0 else some a0):Option Int).bind fun j4_=>((if (a1:Int)<0 then some 0 else some a1):Option Int).bind fun j9_=>((if (j9_:Int) > 1073741823 then some 1073741823 else some j9_):Option Int).bind fun j14_=>(if (j4_:Int)≥j14_ then some (IntKind.wrap .u64 (IntKind.wrap .i64 ((IntKind.wrap .i64 (4 * j14_))+2))) else some (IntKind.wrap .u64 (IntKind.wrap .i64 ((IntKind.wrap .i64 (4 * j4_))+4))))
set_option maxRecDepth 100000 in
set_option maxHeartbeats 4000000 in
theorem sr02_After_con (a0:Int) (a1:Int) (r0:Int) (h:sr02_After.f a0 a1=some r0) (w0:World) (Hs:List Nat):Con Tryz.prog 89 #[.I a0,.I a1] w0 Hs [] (fun X=>X (.U r0) []):=by
 refine con_enter (c:=bodyOf Tryz.f89) Tryz.func89 rfl (m:=22) rfl rfl rfl ?_
 intro X hX _
 have H:=h
 unfold sr02_After.f at H
 clear h
 refine c_seq rfl ?_
 refine r_ordb (l:=[0]) rfl (by kernel_rfl) ?_
 refine sA rfl ?_
 refine sQ ?_
 obtain ⟨j4_,e5_,H⟩:=bind_s H
 refine c_join (β:=Unit) (fun _=>True) (fun _=>[(0,.I j4_),(1,.I a1),(4,.U 0)]) (fun _=>[]) rfl (fun _ _=>?_) (fun J_=>?_)
 obtain ⟨j9_,e10_,H⟩:=bind_s H
 refine c_join (β:=Unit) (fun _=>True) (fun _=>[(0,.I j4_),(1,.I j9_),(4,.U 0)]) (fun _=>[]) rfl (fun _ _=>?_) (fun J_=>?_)
 obtain ⟨j14_,e15_,H⟩:=bind_s H
 refine c_join (β:=Unit) (fun _=>True) (fun _=>[(0,.I j4_),(1,.I j14_),(4,.U 0)]) (fun _=>[]) rfl (fun _ _=>?_) (fun J_=>?_)
 refine c_seq rfl ?_
 refine c_seq rfl ?_
 refine r_ordb (l:=[0,1,2]) rfl (by kernel_rfl) ?_
 refine sM rfl ?_
 refine sM rfl ?_
 refine sR rfl ?_
 refine sQ ?_
 rcases Bool.eq_false_or_eq_true (decide ((j4_:Int)≥j14_)) with h19_ | h19_
 replace H:=ite_y (dec_t h19_) H
 refine cT h19_ rfl ?_
 refine c_seq rfl ?_
 refine r_ordb (l:=[0,1,2,3,4]) rfl (by kernel_rfl) ?_
 refine sM rfl ?_
 refine sR rfl ?_
 refine sR rfl ?_
 refine sV rfl (v_conv rfl Tryz.underlying3 Tryz.underlying41 rfl) ?_
 refine sA rfl ?_
 refine sQ ?_
 refine c_ret rfl ?_
 refine q_then_ret ?_
 have e_:=Option.some.inj H
 subst e_
 exact q_ret (vs:=[.U (IntKind.wrap .u64 (IntKind.wrap .i64 ((IntKind.wrap .i64 (4 * j14_))+2)))]) rfl (.tmp rfl .nil) [] rfl (by decide) (hX)
 replace H:=ite_n (dec_f h19_) H
 refine cF h19_ rfl ?_
 refine kQ rfl ?_
 refine c_seq rfl ?_
 refine r_ordb (l:=[0,1,2,3,4]) rfl (by kernel_rfl) ?_
 refine sM rfl ?_
 refine sR rfl ?_
 refine sR rfl ?_
 refine sV rfl (v_conv rfl Tryz.underlying3 Tryz.underlying41 rfl) ?_
 refine sA rfl ?_
 refine sQ ?_
 refine c_ret rfl ?_
 have e_:=Option.some.inj H
 subst e_
 exact q_ret (vs:=[.U (IntKind.wrap .u64 (IntKind.wrap .i64 ((IntKind.wrap .i64 (4 * j4_))+4)))]) rfl (.tmp rfl .nil) [] rfl (by decide) (hX)
 clear H
 have H:=e15_
 clear e15_
 refine c_seq rfl ?_
 refine r_ordb (l:=[0,1]) rfl (by kernel_rfl) ?_
 refine sM rfl ?_
 refine sR rfl ?_
 refine sQ ?_
 rcases Bool.eq_false_or_eq_true (decide ((j9_:Int) > 1073741823)) with h22_ | h22_
 replace H:=ite_y (dec_t h22_) H
 refine cT h22_ rfl ?_
 refine r_ordb (l:=[0]) rfl (by kernel_rfl) ?_
 refine sA rfl ?_
 refine s_end ?_
 have hq_0:=Option.some.inj H
 subst hq_0
 exact q_seq (c_frame (subF_spec (by exact ⟨rfl,rfl,rfl,trivial⟩)) (c_take [] rfl (by decide) (J_ () trivial)))
 replace H:=ite_n (dec_f h22_) H
 refine cF h22_ rfl ?_
 refine c_skip rfl ?_
 have hq_0:=Option.some.inj H
 subst hq_0
 exact q_seq (c_frame (subF_spec (by exact ⟨rfl,rfl,rfl,trivial⟩)) (c_take [] rfl (by decide) (J_ () trivial)))
 clear H
 have H:=e10_
 clear e10_
 refine c_seq rfl ?_
 refine r_ordb (l:=[0,1]) rfl (by kernel_rfl) ?_
 refine sM rfl ?_
 refine sR rfl ?_
 refine sQ ?_
 rcases Bool.eq_false_or_eq_true (decide ((a1:Int)<0)) with h25_ | h25_
 replace H:=ite_y (dec_t h25_) H
 refine cT h25_ rfl ?_
 refine r_ordb (l:=[0]) rfl (by kernel_rfl) ?_
 refine sA rfl ?_
 refine s_end ?_
 have hq_0:=Option.some.inj H
 subst hq_0
 exact q_seq (c_frame (subF_spec (by exact ⟨rfl,rfl,rfl,trivial⟩)) (c_take [] rfl (by decide) (J_ () trivial)))
 replace H:=ite_n (dec_f h25_) H
 refine cF h25_ rfl ?_
 refine c_skip rfl ?_
 have hq_0:=Option.some.inj H
 subst hq_0
 exact q_seq (c_frame (subF_spec (by exact ⟨rfl,rfl,rfl,trivial⟩)) (c_take [] rfl (by decide) (J_ () trivial)))
 clear H
 have H:=e5_
 clear e5_
 refine c_seq rfl ?_
 refine r_ordb (l:=[0,1]) rfl (by kernel_rfl) ?_
 refine sM rfl ?_
 refine sR rfl ?_
 refine sQ ?_
 rcases Bool.eq_false_or_eq_true (decide ((a0:Int)<0)) with h28_ | h28_
 replace H:=ite_y (dec_t h28_) H
 refine cT h28_ rfl ?_
 refine r_ordb (l:=[0]) rfl (by kernel_rfl) ?_
 refine sA rfl ?_
 refine s_end ?_
 have hq_0:=Option.some.inj H
 subst hq_0
 exact q_seq (c_frame (subF_spec (by exact ⟨rfl,rfl,rfl,trivial⟩)) (c_take [] rfl (by decide) (J_ () trivial)))
 replace H:=ite_n (dec_f h28_) H
 refine cF h28_ rfl ?_
 refine c_skip rfl ?_
 have hq_0:=Option.some.inj H
 subst hq_0
 exact q_seq (c_frame (subF_spec (by exact ⟨rfl,rfl,rfl,trivial⟩)) (c_take [] rfl (by decide) (J_ () trivial)))
def sr22_with.f (p0:Int) (p1:Int) (p2:Int) (p3:Int) (p4:Int) (p5:Int) (p6:Int) (l1:List Int) (a2:Int) (a3:Int) (a4:Int):Option (List Int):=(if ([]:List Int).length+l1.length<17592186044416 then (sr04_Cell.f p0 p1 p2 p3 p4 p5 p6 a2 a3).bind fun t26_=>(if 0≤(t26_:Int) then (if (t26_:Int)<((([]:List Int) ++ l1).length:Int) then some ((([]:List Int) ++ l1).set (Int.toNat t26_) a4) else none) else none) else none)
set_option maxRecDepth 100000 in
set_option maxHeartbeats 4000000 in
theorem sr22_with_con (p0:Int) (p1:Int) (p2:Int) (p3:Int) (p4:Int) (p5:Int) (p6:Int) (A1:Option Addr) (c1:Nat) (l1:List Int) (a2:Int) (a3:Int) (a4:Int) (r0:List Int) (h:sr22_with.f p0 p1 p2 p3 p4 p5 p6 l1 a2 a3 a4=some r0) (w0:World) (Hs:List Nat):Con Tryz.prog 40 #[.agg (cfA p0 p1 p2 p3 p4 p5 p6),.slice A1 l1.length c1,.I a2,.I a3,.U a4] w0 Hs [.f (KU A1 c1 l1)] (fun X=>∀ A_r0 c_r0,X (.slice A_r0 r0.length c_r0) [.f (KU A_r0 c_r0 r0)]):=by
 refine con_enter (c:=bodyOf Tryz.f40) Tryz.func40 rfl (m:=23) rfl rfl rfl ?_
 intro X hX _
 have H:=h
 unfold sr22_with.f at H
 clear h
 refine c_seq rfl ?_
 refine r_ordb (l:=[0,1]) rfl (by kernel_rfl) ?_
 refine s_e rfl rfl (e_box rfl rfl rfl rfl) ?_
 intro b2_
 refine sA rfl ?_
 refine sE rfl ?_
 refine r_ordb (l:=[0,1,2,3]) rfl (by kernel_rfl) ?_
 refine s_e rfl rfl (e_bslice0 rfl rfl rfl Tryz.underlying24 SZ41) ?_
 intro b8_
 refine sM rfl ?_
 obtain ⟨n9_,H⟩:=ite_no H
 refine s_e rfl rfl (e_appOK (flat_int .u64) (xs:=([]:List Int)) (ro:=(some (b8_,0,#[]))) (l:=l1) (z:=(.U 0)) (m:=1) (bytes:=8) (i:=2) (j:=0) rfl rfl rfl rfl rfl rfl Tryz.underlying24 (by kernel_rfl) rfl rfl rfl rfl orow_empty rfl rfl rfl (by first | omega | (simp only [List.length_nil,Nat.zero_add]; omega)) (by simp only [maxLen]; first | omega | (simp only [List.length_nil,Nat.zero_add]; omega))) ?_
 intro ro10_ hr11_ sm12_
 refine sA rfl ?_
 refine sE rfl ?_
 refine r_ordb (l:=[0,1,2,3,4,5,6,7]) rfl (by kernel_rfl) ?_
 refine sM rfl ?_
 refine sV rfl (vLA (lfA p0 p1 p2 p3 p4 p5 p6) 1 Tryz.underlying23 SZ23 rfl) ?_
 refine sM rfl ?_
 refine sM rfl ?_
 obtain ⟨t26_,e27_,H⟩:=bind_s H
 refine s_e rfl rfl (eC [] #[.agg (cfA p0 p1 p2 p3 p4 p5 p6),.I a2,.I a3] Tryz.func15 (by decide) rfl (fun w ht=>sr04_Cell_con p0 p1 p2 p3 p4 p5 p6 a2 a3 t26_ e27_ w _)) ?_
 refine sM rfl ?_
 obtain ⟨n28_,H⟩:=ite_no H
 obtain ⟨n29_,H⟩:=ite_no H
 rcases ro10_ with _ | ⟨g30_,cap31_,cur32_⟩
 ·exact absurd n29_ (by rw [show (([]:List Int) ++ l1)=[] from hr11_]; simp; omega)
 obtain ⟨h33_,h34_,h35_,h36_⟩:=hr11_
 obtain ⟨rest37_,he38_⟩:∃ rest,cur32_=RowI .u64 (([]:List Int) ++ l1) rest:=⟨_,RowI_of (by rw [h36_]; exact flat_map_int)⟩
 subst he38_
 refine sV rfl (v_iaI rfl Tryz.underlying24 SZ41 rfl rfl n28_ n29_) ?_
 refine s_e rfl rfl (e_stI 0 rfl rfl SZ41 rfl rfl rfl n28_ (lt_lh rfl n29_)) ?_
 refine sE rfl ?_
 refine r_ordb (l:=[0,1]) rfl (by kernel_rfl) ?_
 refine sM rfl ?_
 refine sA rfl ?_
 refine sQ ?_
 refine c_ret rfl ?_
 refine q_give [0,1,2] rfl (by decide) (by simp [ids,Ent.id?]) (KC_own (k := .u64) (cap:=cap31_) (xs:=((([]:List Int) ++ l1).set (Int.toNat t26_) a4)) RowI_take (Nat.le_trans (Nat.le_of_eq (lh_set rfl)) h33_) h34_) ?_
 have e_:=Option.some.inj H
 subst e_
 have hX1:=hX (some ⟨g30_,0,none⟩) cap31_
 rw [show ((([]:List Int) ++ l1).set (Int.toNat t26_) a4).length=(([]:List Int) ++ l1).length from (lh_set rfl)] at hX1
 exact q_ret (vs:=[.slice (some ⟨g30_,0,none⟩) ((([]:List Int) ++ l1).length) cap31_]) rfl (.tmp rfl .nil) [0] rfl (by decide) (hX1)
def sr22_frees.f (p0:Int) (p1:Int) (p2:Int) (p3:Int) (p4:Int) (p5:Int) (p6:Int) (l1:List Int) (a2:Int):Option (List Int):=(sr22_at.f p0 p1 p2 p3 p4 p5 p6 l1 a2 0).bind fun t15_=>(sr02_Gen.f t15_).bind fun t17_=>(sr02_After.f t17_ p6).bind fun t19_=>(sr22_with.f p0 p1 p2 p3 p4 p5 p6 l1 a2 0 t19_).bind fun t21_=>some t21_
set_option maxRecDepth 100000 in
set_option maxHeartbeats 4000000 in
theorem sr22_frees_con (p0:Int) (p1:Int) (p2:Int) (p3:Int) (p4:Int) (p5:Int) (p6:Int) (A1:Option Addr) (c1:Nat) (l1:List Int) (a2:Int) (r0:List Int) (h:sr22_frees.f p0 p1 p2 p3 p4 p5 p6 l1 a2=some r0) (w0:World) (Hs:List Nat):Con Tryz.prog 36 #[.agg (cfA p0 p1 p2 p3 p4 p5 p6),.slice A1 l1.length c1,.I a2] w0 Hs [.f (KU A1 c1 l1)] (fun X=>∀ A_r0 c_r0,X (.slice A_r0 r0.length c_r0) [.f (KU A_r0 c_r0 r0)]):=by
 refine con_enter (c:=bodyOf Tryz.f36) Tryz.func36 rfl (m:=19) rfl rfl rfl ?_
 intro X hX _
 have H:=h
 unfold sr22_frees.f at H
 clear h
 refine c_seq rfl ?_
 refine r_ordb (l:=[0,1]) rfl (by kernel_rfl) ?_
 refine s_e rfl rfl (e_box rfl rfl rfl rfl) ?_
 intro b2_
 refine sA rfl ?_
 refine sE rfl ?_
 obtain ⟨t15_,e16_,H⟩:=bind_s H
 obtain ⟨t17_,e18_,H⟩:=bind_s H
 obtain ⟨t19_,e20_,H⟩:=bind_s H
 obtain ⟨t21_,e22_,H⟩:=bind_s H
 refine r_any [.b b2_ (.cells (cfA p0 p1 p2 p3 p4 p5 p6) 23 (0,0)),.f (KU A1 c1 l1)] (by kernel_rfl) rfl (by kernel_rfl) (mem_pick (idx:=[0,1]) rfl) ?_
 refine aV 0 rfl (by kernel_rfl) (vLA (lfA p0 p1 p2 p3 p4 p5 p6) 0 Tryz.underlying23 SZ23 rfl) ?_
 refine aV 1 rfl (by kernel_rfl) (vM rfl) ?_
 refine aV 2 rfl (by kernel_rfl) (vM rfl) ?_
 refine aV 3 rfl (by kernel_rfl) (vLA (lfA p0 p1 p2 p3 p4 p5 p6) 0 Tryz.underlying23 SZ23 rfl) ?_
 refine aV 4 rfl (by kernel_rfl) (vM rfl) ?_
 refine aV 5 rfl (by kernel_rfl) (vM rfl) ?_
 refine aV 8 rfl (by kernel_rfl) (vF Tryz.underlying23 SZ3 rfl) ?_
 refine aV 9 rfl (by kernel_rfl) (vL 0 Tryz.underlying3 rfl) ?_
 refine a_1 (i:=6) (by kernel_rfl) ?_
 refine i_e rfl rfl (eC [1] #[.agg (cfA p0 p1 p2 p3 p4 p5 p6),.slice A1 l1.length c1,.I a2,.I 0] Tryz.func38 (by decide) rfl (fun w ht=>sr22_at_con p0 p1 p2 p3 p4 p5 p6 A1 c1 l1 a2 0 t15_ e16_ w _)) ?_
 refine ⟨(mem_pick (idx:=[0,1]) rfl),?_⟩
 refine a_1 (i:=7) (by kernel_rfl) ?_
 refine i_e rfl rfl (eC [] #[.U t15_] Tryz.func90 (by decide) rfl (fun w ht=>sr02_Gen_con t15_ t17_ e18_ w _)) ?_
 refine ⟨(mem_pick (idx:=[0,1]) rfl),?_⟩
 refine a_1 (i:=10) (by kernel_rfl) ?_
 refine i_e rfl rfl (eC [] #[.I t17_,.I p6] Tryz.func89 (by decide) rfl (fun w ht=>sr02_After_con t17_ p6 t19_ e20_ w _)) ?_
 refine ⟨(mem_pick (idx:=[0,1]) rfl),?_⟩
 refine a_1 (i:=11) (by kernel_rfl) ?_
 refine i_e rfl rfl (eC [1] #[.agg (cfA p0 p1 p2 p3 p4 p5 p6),.slice A1 l1.length c1,.I a2,.I 0,.U t19_] Tryz.func40 (by decide) rfl (fun w ht=>sr22_with_con p0 p1 p2 p3 p4 p5 p6 A1 c1 l1 a2 0 t19_ t21_ e22_ w _)) ?_
 intro A25_ c26_
 refine ⟨(mem_pick (idx:=[1,2]) rfl),?_⟩
 refine aV 12 rfl (by kernel_rfl) (vA rfl) ?_
 refine a_end (by kernel_rfl) ?_
 refine q_seq ?_
 refine c_ret rfl ?_
 have e_:=Option.some.inj H
 subst e_
 exact q_ret (vs:=[.slice A25_ t21_.length c26_]) rfl (.tmp rfl .nil) [0] rfl (by decide) (hX A25_ c26_)
def sr22_lowest.l0:Nat→Int→Int→Int→Int→Int→Int→Int→List Int→Int→Int→Option Int
 | 0,_,_,_,_,_,_,_,_,_,_=>none
 | k+1,p0,p1,p2,p3,p4,p5,p6,l1,a2,x13_=>(if (x13_:Int)<a2 then (sr22_at.f p0 p1 p2 p3 p4 p5 p6 l1 x13_ 0).bind fun t41_=>(sr02_State.f t41_).bind fun t43_=>(if (t43_:Int)=0 then some x13_ else sr22_lowest.l0 k p0 p1 p2 p3 p4 p5 p6 l1 a2 (IntKind.wrap .i64 (x13_+1))) else some 0)
def sr22_lowest.f (k:Nat) (p0:Int) (p1:Int) (p2:Int) (p3:Int) (p4:Int) (p5:Int) (p6:Int) (l1:List Int) (a2:Int):Option Int:=sr22_lowest.l0 k p0 p1 p2 p3 p4 p5 p6 l1 a2 1
set_option maxRecDepth 100000 in
set_option maxHeartbeats 4000000 in
theorem sr22_lowest_con (k:Nat) (p0:Int) (p1:Int) (p2:Int) (p3:Int) (p4:Int) (p5:Int) (p6:Int) (A1:Option Addr) (c1:Nat) (l1:List Int) (a2:Int) (r0:Int) (h:sr22_lowest.f k p0 p1 p2 p3 p4 p5 p6 l1 a2=some r0) (w0:World) (Hs:List Nat):Con Tryz.prog 37 #[.agg (cfA p0 p1 p2 p3 p4 p5 p6),.slice A1 l1.length c1,.I a2] w0 Hs [.f (KU A1 c1 l1)] (fun X=>X (.I r0) []):=by
 refine con_enter (c:=bodyOf Tryz.f37) Tryz.func37 rfl (m:=20) rfl rfl rfl ?_
 intro X hX _
 have H:=h
 unfold sr22_lowest.f at H
 clear h
 refine c_seq rfl ?_
 refine r_ordb (l:=[0,1]) rfl (by kernel_rfl) ?_
 refine s_e rfl rfl (e_box rfl rfl rfl rfl) ?_
 intro b2_
 refine sA rfl ?_
 refine sE rfl ?_
 refine c_seq rfl ?_
 refine r_ordb (l:=[0]) rfl (by kernel_rfl) ?_
 refine sA rfl ?_
 refine sQ ?_
 refine c_block rfl ?_
 refine c_loop (σ:=Nat × Int) (fun (k,x13_)=>sr22_lowest.l0 k p0 p1 p2 p3 p4 p5 p6 l1 a2 x13_=some r0) (fun (k,x13_)=>k) (fun (k,x13_)=>[(1,.slice A1 l1.length c1),(2,.I a2),(3,.P b2_),(6,.I 0),(7,.I x13_)]) (fun (k,x13_)=>[.b b2_ (.cells (cfA p0 p1 p2 p3 p4 p5 p6) 23 (0,0)),.f (KU A1 c1 l1)]) (k,1) [0,1] rfl H (subF_spec ⟨rfl,rfl,rfl,rfl,rfl,trivial⟩) rfl (by decide) ?_
 rintro ⟨k0_,x13_⟩ hs24_
 clear H
 have H:sr22_lowest.l0 k0_ p0 p1 p2 p3 p4 p5 p6 l1 a2 x13_=some r0:=hs24_
 try clear hs24_
 rcases k0_ with _ | k0_
 ·exact none_no (show none=_ from H)
 unfold sr22_lowest.l0 at H
 have hko_0:k0_≤k0_:=Nat.le_refl _
 refine c_seq rfl ?_
 refine c_seq rfl ?_
 refine r_ordb (l:=[0,1,2]) rfl (by kernel_rfl) ?_
 refine sM rfl ?_
 refine sM rfl ?_
 refine sR rfl ?_
 refine sQ ?_
 rcases Bool.eq_false_or_eq_true (decide ((x13_:Int)<a2)) with h28_ | h28_
 ·
  replace H:=ite_y (dec_t h28_) H
  refine cT h28_ rfl ?_
  refine kQ rfl ?_
  refine c_seq rfl ?_
  refine c_block rfl ?_
  refine c_seq rfl ?_
  refine r_ordb (l:=[0,1,2,3,4,5]) rfl (by kernel_rfl) ?_
  refine sV rfl (vLA (lfA p0 p1 p2 p3 p4 p5 p6) 0 Tryz.underlying23 SZ23 rfl) ?_
  refine sM rfl ?_
  refine sM rfl ?_
  obtain ⟨t41_,e42_,H⟩:=bind_s H
  refine s_e rfl rfl (eC [1] #[.agg (cfA p0 p1 p2 p3 p4 p5 p6),.slice A1 l1.length c1,.I x13_,.I 0] Tryz.func38 (by decide) rfl (fun w ht=>sr22_at_con p0 p1 p2 p3 p4 p5 p6 A1 c1 l1 x13_ 0 t41_ e42_ w _)) ?_
  obtain ⟨t43_,e44_,H⟩:=bind_s H
  refine s_e rfl rfl (eC [] #[.U t41_] Tryz.func14 (by decide) rfl (fun w ht=>sr02_State_con t41_ t43_ e44_ w _)) ?_
  refine sR rfl ?_
  refine sQ ?_
  rcases Bool.eq_false_or_eq_true ((t43_:Int) == 0) with h45_ | h45_
  ·
   replace H:=ite_y (ibeq_t h45_) H
   refine cT h45_ rfl ?_
   refine c_seq rfl ?_
   refine r_ordb (l:=[0,1]) rfl (by kernel_rfl) ?_
   refine sM rfl ?_
   refine sA rfl ?_
   refine sQ ?_
   refine c_ret rfl ?_
   refine q_block_ret ?_
   refine q_then_ret ?_
   refine q_then_ret ?_
   refine q_block_ret ?_
   refine q_then_ret ?_
   have e_:=Option.some.inj H
   subst e_
   exact q_ret (vs:=[.I x13_]) rfl (.tmp rfl .nil) [] rfl (by decide) (hX)
  ·
   replace H:=ite_n (ibeq_f h45_) H
   refine cF h45_ rfl ?_
   refine c_skip rfl ?_
   refine q_block ?_
   refine q_seq ?_
   refine r_ordb (l:=[0,1,2]) rfl (by kernel_rfl) ?_
   refine sM rfl ?_
   refine sR rfl ?_
   refine sA rfl ?_
   refine s_end ?_
   exact q_again (k0_,IntKind.wrap .i64 (x13_+1)) [0,1] H (Nat.lt_succ_of_le hko_0) (subF_spec ⟨rfl,rfl,rfl,rfl,rfl,trivial⟩) rfl (by decide)
 ·
  replace H:=ite_n (dec_f h28_) H
  refine cF h28_ rfl ?_
  refine c_exit (i:=0) rfl rfl ?_
  refine q_then_exit ?_
  refine q_then_exit ?_
  refine q_block_here rfl ?_
  refine q_seq ?_
  refine c_seq rfl ?_
  refine r_ordb (l:=[0]) rfl (by kernel_rfl) ?_
  refine sA rfl ?_
  refine sQ ?_
  refine c_ret rfl ?_
  have e_:=Option.some.inj H
  subst e_
  exact q_ret (vs:=[.I 0]) rfl (.tmp rfl .nil) [] rfl (by decide) (hX)
def sr01_Pack.f (a0:Int) (a1:Int) (a2:Bool):Option (Int × Bool):=((if (a0:Int)<0 then some true else (if (a0:Int) > 4294967295 then some true else (if (a1:Int)<0 then some true else some (decide ((a1:Int) > 1073741823))))):Option Bool).bind fun j22_=>(if j22_=true then some (0,false) else ((if a2=true then some (IntKind.wrap .u64 ((IntKind.wrap .u64 ((IntKind.wrap .u64 (9223372036854775808+(IntKind.wrap .u64 (4294967296 * (IntKind.wrap .u64 a1)))))+(IntKind.wrap .u64 a0)))+4611686018427387904)) else some (IntKind.wrap .u64 ((IntKind.wrap .u64 (9223372036854775808+(IntKind.wrap .u64 (4294967296 * (IntKind.wrap .u64 a1)))))+(IntKind.wrap .u64 a0)))):Option Int).bind fun j26_=>some (j26_,true))
set_option maxRecDepth 100000 in
set_option maxHeartbeats 4000000 in
theorem sr01_Pack_con (a0:Int) (a1:Int) (a2:Bool) (r0:Int) (r1:Bool) (h:sr01_Pack.f a0 a1 a2=some (r0,r1)) (w0:World) (Hs:List Nat):Con Tryz.prog 58 #[.I a0,.I a1,.bool a2] w0 Hs [] (fun X=>X (.tuple #[.U r0,.bool r1]) []):=by
 refine con_enter (c:=bodyOf Tryz.f58) Tryz.func58 rfl (m:=34) rfl rfl rfl ?_
 intro X hX _
 have H:=h
 unfold sr01_Pack.f at H
 clear h
 refine c_seq rfl ?_
 refine r_ordb (l:=[0,1]) rfl (by kernel_rfl) ?_
 refine sA rfl ?_
 refine sA rfl ?_
 refine sE rfl ?_
 obtain ⟨j22_,e23_,H⟩:=bind_s H
 refine c_join (β:=Unit) (fun _=>True) (fun _=>[(0,.I a0),(1,.I a1),(2,.bool a2),(6,.U 0),(7,.bool false),(22,.bool j22_)]) (fun _=>[]) rfl (fun _ _=>?_) (fun J_=>?_)
 rcases Bool.eq_false_or_eq_true j22_ with h24_ | h24_
 subst h24_
 replace H:=ite_y rfl H
 refine c_cond1 rfl rfl ?_
 refine c_seq rfl ?_
 refine r_ordb (l:=[0,1]) rfl (by kernel_rfl) ?_
 refine sA rfl ?_
 refine sA rfl ?_
 refine sQ ?_
 refine c_ret rfl ?_
 refine q_then_ret ?_
 have hq_0:=Option.some.inj H
 obtain ⟨ee_0,hq_1⟩:=Prod.mk.inj hq_0
 subst ee_0
 subst hq_1
 exact q_ret (vs:=[.U 0,.bool false]) rfl (.tmp rfl (.tmp rfl .nil)) [] rfl (by decide) (hX)
 subst h24_
 replace H:=ite_n (by decide) H
 refine c_cond0 rfl rfl ?_
 refine kQ rfl ?_
 refine c_seq rfl ?_
 refine r_ordb (l:=[0,1,2,3,4,5,6,7]) rfl (by kernel_rfl) ?_
 refine sM rfl ?_
 refine sV rfl (v_conv rfl Tryz.underlying3 Tryz.underlying41 rfl) ?_
 refine sR rfl ?_
 refine sR rfl ?_
 refine sM rfl ?_
 refine sV rfl (v_conv rfl Tryz.underlying3 Tryz.underlying41 rfl) ?_
 refine sR rfl ?_
 refine sA rfl ?_
 refine sQ ?_
 obtain ⟨j26_,e27_,H⟩:=bind_s H
 refine c_join (β:=Unit) (fun _=>True) (fun _=>[(6,.U 0),(7,.bool false),(8,.U j26_)]) (fun _=>[]) rfl (fun _ _=>?_) (fun J_=>?_)
 refine c_seq rfl ?_
 refine r_ordb (l:=[0,1,2]) rfl (by kernel_rfl) ?_
 refine sM rfl ?_
 refine sA rfl ?_
 refine sA rfl ?_
 refine sQ ?_
 refine c_ret rfl ?_
 have hq_0:=Option.some.inj H
 obtain ⟨ee_0,hq_1⟩:=Prod.mk.inj hq_0
 subst ee_0
 subst hq_1
 exact q_ret (vs:=[.U j26_,.bool true]) rfl (.tmp rfl (.tmp rfl .nil)) [] rfl (by decide) (hX)
 clear H
 have H:=e27_
 clear e27_
 refine c_seq rfl ?_
 refine r_ordb (l:=[0]) rfl (by kernel_rfl) ?_
 refine sM rfl ?_
 refine sQ ?_
 rcases Bool.eq_false_or_eq_true a2 with h28_ | h28_
 subst h28_
 replace H:=ite_y rfl H
 refine c_cond1 rfl rfl ?_
 refine r_ordb (l:=[0,1,2]) rfl (by kernel_rfl) ?_
 refine sM rfl ?_
 refine sR rfl ?_
 refine sA rfl ?_
 refine s_end ?_
 have hq_0:=Option.some.inj H
 subst hq_0
 exact q_seq (c_frame (subF_spec (by exact ⟨rfl,rfl,rfl,trivial⟩)) (c_take [] rfl (by decide) (J_ () trivial)))
 subst h28_
 replace H:=ite_n (by decide) H
 refine c_cond0 rfl rfl ?_
 refine c_skip rfl ?_
 have hq_0:=Option.some.inj H
 subst hq_0
 exact q_seq (c_frame (subF_spec (by exact ⟨rfl,rfl,rfl,trivial⟩)) (c_take [] rfl (by decide) (J_ () trivial)))
 clear H
 have H:=e23_
 clear e23_
 refine r_ordb (l:=[0,1,2,3,4,5,6,7,8,9,10,11,12,13]) rfl (by kernel_rfl) ?_
 refine sM rfl ?_
 refine sR rfl ?_
 refine sM rfl ?_
 rcases Bool.eq_false_or_eq_true (decide ((a0:Int)<0)) with h29_ | h29_
 replace H:=ite_y (dec_t h29_) H
 refine s_splitv (d:=11) (t:=decide ((a0:Int)<0)) rfl (fun _=>?_) (fun h30_=>absurd (h30_.symm.trans h29_) (by decide))
 refine sN rfl ?_
 refine sN rfl ?_
 refine sP rfl ?_
 refine sM rfl ?_
 refine sN rfl ?_
 refine sN rfl ?_
 refine sP rfl ?_
 refine sM rfl ?_
 refine sN rfl ?_
 refine sN rfl ?_
 refine sP rfl ?_
 refine s_end ?_
 have hq_0:=Option.some.inj H
 subst hq_0
 exact q_seq (c_frame (subF_spec (by exact ⟨rfl,rfl,rfl,rfl,rfl,rfl,trivial⟩)) (c_take [] rfl (by decide) (J_ () trivial)))
 replace H:=ite_n (dec_f h29_) H
 refine s_splitv (d:=11) (t:=decide ((a0:Int)<0)) rfl (fun h31_=>absurd (h31_.symm.trans h29_) (by decide)) (fun _=>?_)
 refine sG rfl (vM rfl) ?_
 refine sG rfl (vR rfl) ?_
 refine sP rfl ?_
 refine sM rfl ?_
 rcases Bool.eq_false_or_eq_true (decide ((a0:Int) > 4294967295)) with h32_ | h32_
 replace H:=ite_y (dec_t h32_) H
 refine s_splitv (d:=15) (t:=decide ((a0:Int) > 4294967295)) rfl (fun _=>?_) (fun h33_=>absurd (h33_.symm.trans h32_) (by decide))
 refine sN rfl ?_
 refine sN rfl ?_
 refine sP rfl ?_
 refine sM rfl ?_
 refine sN rfl ?_
 refine sN rfl ?_
 refine sP rfl ?_
 refine s_end ?_
 have hq_0:=Option.some.inj H
 subst hq_0
 exact q_seq (c_frame (subF_spec (by exact ⟨rfl,rfl,rfl,rfl,rfl,rfl,trivial⟩)) (c_take [] rfl (by decide) (J_ () trivial)))
 replace H:=ite_n (dec_f h32_) H
 refine s_splitv (d:=15) (t:=decide ((a0:Int) > 4294967295)) rfl (fun h34_=>absurd (h34_.symm.trans h32_) (by decide)) (fun _=>?_)
 refine sG rfl (vM rfl) ?_
 refine sG rfl (vR rfl) ?_
 refine sP rfl ?_
 refine sM rfl ?_
 rcases Bool.eq_false_or_eq_true (decide ((a1:Int)<0)) with h35_ | h35_
 replace H:=ite_y (dec_t h35_) H
 refine s_splitv (d:=19) (t:=decide ((a1:Int)<0)) rfl (fun _=>?_) (fun h36_=>absurd (h36_.symm.trans h35_) (by decide))
 refine sN rfl ?_
 refine sN rfl ?_
 refine sP rfl ?_
 refine s_end ?_
 have hq_0:=Option.some.inj H
 subst hq_0
 exact q_seq (c_frame (subF_spec (by exact ⟨rfl,rfl,rfl,rfl,rfl,rfl,trivial⟩)) (c_take [] rfl (by decide) (J_ () trivial)))
 replace H:=ite_n (dec_f h35_) H
 refine s_splitv (d:=19) (t:=decide ((a1:Int)<0)) rfl (fun h37_=>absurd (h37_.symm.trans h35_) (by decide)) (fun _=>?_)
 refine sG rfl (vM rfl) ?_
 refine sG rfl (vR rfl) ?_
 refine sP rfl ?_
 refine s_end ?_
 have hq_0:=Option.some.inj H
 subst hq_0
 exact q_seq (c_frame (subF_spec (by exact ⟨rfl,rfl,rfl,rfl,rfl,rfl,trivial⟩)) (c_take [] rfl (by decide) (J_ () trivial)))
def sr01_Of.f (a0:Int) (a1:Int):Option Int:=(sr01_Pack.f a0 a1 false).bind fun (t4_,t5_)=>some t4_
set_option maxRecDepth 100000 in
set_option maxHeartbeats 4000000 in
theorem sr01_Of_con (a0:Int) (a1:Int) (r0:Int) (h:sr01_Of.f a0 a1=some r0) (w0:World) (Hs:List Nat):Con Tryz.prog 21 #[.I a0,.I a1] w0 Hs [] (fun X=>X (.U r0) []):=by
 refine con_enter (c:=bodyOf Tryz.f21) Tryz.func21 rfl (m:=14) rfl rfl rfl ?_
 intro X hX _
 have H:=h
 unfold sr01_Of.f at H
 clear h
 refine c_seq rfl ?_
 refine r_ordb (l:=[0]) rfl (by kernel_rfl) ?_
 refine sA rfl ?_
 refine sE rfl ?_
 refine r_ordb (l:=[0,1,2,3,4,5,6,7]) rfl (by kernel_rfl) ?_
 refine sM rfl ?_
 refine sM rfl ?_
 obtain ⟨⟨t4_,t5_⟩,e6_,H⟩:=bind_s H
 refine s_e rfl rfl (eC [] #[.I a0,.I a1,.bool false] Tryz.func58 (by decide) rfl (fun w ht=>sr01_Pack_con a0 a1 false t4_ t5_ e6_ w _)) ?_
 refine sM rfl ?_
 refine sV rfl (v_ext rfl rfl rfl) ?_
 refine sV rfl (v_ext rfl rfl rfl) ?_
 refine sA rfl ?_
 refine sA rfl ?_
 refine sE rfl ?_
 refine r_ordb (l:=[0,1]) rfl (by kernel_rfl) ?_
 refine sM rfl ?_
 refine sA rfl ?_
 refine sQ ?_
 refine c_ret rfl ?_
 have e_:=Option.some.inj H
 subst e_
 exact q_ret (vs:=[.U t4_]) rfl (.tmp rfl .nil) [] rfl (by decide) (hX)
def sr22_moves.l0:Nat→Int→Int→Int→Int→Int→Int→Int→List Int→Int→Int→Int→Int→Int→List Int→Option ((List Int) × Int × Int)
 | 0,_,_,_,_,_,_,_,_,_,_,_,_,_,_=>none
 | k+1,p0,p1,p2,p3,p4,p5,p6,l1,a2,a3,t22_,t28_,x69_,l68_=>(if (x69_:Int)<(IntKind.wrap .i64 (6+p3)) then (sr22_at.f p0 p1 p2 p3 p4 p5 p6 l1 a2 x69_).bind fun t95_=>(sr22_with.f p0 p1 p2 p3 p4 p5 p6 l68_ a3 x69_ t95_).bind fun t97_=>sr22_moves.l0 k p0 p1 p2 p3 p4 p5 p6 l1 a2 a3 t22_ t28_ (IntKind.wrap .i64 (x69_+1)) t97_ else (sr22_frees.f p0 p1 p2 p3 p4 p5 p6 l68_ a2).bind fun t110_=>some (t110_,t22_,t28_))
def sr22_moves.f (k:Nat) (p0:Int) (p1:Int) (p2:Int) (p3:Int) (p4:Int) (p5:Int) (p6:Int) (l1:List Int) (a2:Int) (a3:Int):Option ((List Int) × Int × Int):=(sr22_at.f p0 p1 p2 p3 p4 p5 p6 l1 a2 0).bind fun t18_=>(sr02_Gen.f t18_).bind fun t20_=>(sr01_Of.f a2 t20_).bind fun t22_=>(sr22_at.f p0 p1 p2 p3 p4 p5 p6 l1 a3 0).bind fun t24_=>(sr02_Gen.f t24_).bind fun t26_=>(sr01_Of.f a3 t26_).bind fun t28_=>(sr22_at.f p0 p1 p2 p3 p4 p5 p6 l1 a3 0).bind fun t43_=>(sr02_Gen.f t43_).bind fun t45_=>(sr02_Taken.f t45_).bind fun t47_=>(sr22_with.f p0 p1 p2 p3 p4 p5 p6 l1 a3 0 t47_).bind fun t49_=>sr22_moves.l0 k p0 p1 p2 p3 p4 p5 p6 l1 a2 a3 t22_ t28_ 1 t49_
set_option maxRecDepth 100000 in
set_option maxHeartbeats 4000000 in
theorem sr22_moves_con (k:Nat) (p0:Int) (p1:Int) (p2:Int) (p3:Int) (p4:Int) (p5:Int) (p6:Int) (A1:Option Addr) (c1:Nat) (l1:List Int) (a2:Int) (a3:Int) (r0:List Int) (r1:Int) (r2:Int) (h:sr22_moves.f k p0 p1 p2 p3 p4 p5 p6 l1 a2 a3=some (r0,r1,r2)) (w0:World) (Hs:List Nat):Con Tryz.prog 39 #[.agg (cfA p0 p1 p2 p3 p4 p5 p6),.slice A1 l1.length c1,.I a2,.I a3] w0 Hs [.f (KU A1 c1 l1)] (fun X=>∀ A_r0 c_r0,X (.tuple #[.slice A_r0 r0.length c_r0,.agg #[.U r1,.U r2]]) [.f (KU A_r0 c_r0 r0)]):=by
 refine con_enter (c:=bodyOf Tryz.f39) Tryz.func39 rfl (m:=60) rfl rfl rfl ?_
 intro X hX _
 have H:=h
 unfold sr22_moves.f at H
 clear h
 refine c_seq rfl ?_
 refine r_ordb (l:=[0,1,2]) rfl (by kernel_rfl) ?_
 refine s_e rfl rfl (e_box rfl rfl rfl rfl) ?_
 intro b3_
 refine sA rfl ?_
 refine s_e rfl rfl (e_alloc rfl rfl rfl ZR79) ?_
 intro b4_
 refine sE rfl ?_
 obtain ⟨t18_,e19_,H⟩:=bind_s H
 obtain ⟨t20_,e21_,H⟩:=bind_s H
 obtain ⟨t22_,e23_,H⟩:=bind_s H
 obtain ⟨t24_,e25_,H⟩:=bind_s H
 obtain ⟨t26_,e27_,H⟩:=bind_s H
 obtain ⟨t28_,e29_,H⟩:=bind_s H
 refine r_any [.b b4_ (.cells #[.U 0,.U 0] 79 (0,0)),.b b3_ (.cells (cfA p0 p1 p2 p3 p4 p5 p6) 23 (0,0)),.f (KU A1 c1 l1)] (by kernel_rfl) rfl (by kernel_rfl) (mem_pick (idx:=[0,1,2]) rfl) ?_
 refine a_join (β:=Nat) 0 #[true,true,true,true,true,true,true,true,true,true,true,true,true,true,true,true,true] (fun bo15_1_=>[(0,.agg (cfA p0 p1 p2 p3 p4 p5 p6)),(1,.slice A1 l1.length c1),(2,.I a2),(3,.I a3),(4,.P b3_),(8,.slice none 0 0),(9,.P b4_),(10,.P bo15_1_),(13,.I a2),(14,.agg (cfA p0 p1 p2 p3 p4 p5 p6)),(15,.slice A1 l1.length c1),(16,.I a2),(17,.U t18_),(18,.I t20_),(19,.U t22_),(20,.I a3),(21,.agg (cfA p0 p1 p2 p3 p4 p5 p6)),(22,.slice A1 l1.length c1),(23,.I a3),(24,.U t24_),(25,.I t26_),(26,.U t28_),(27,.agg #[.U t22_,.U t28_])]) (fun bo15_1_=>[.b b3_ (.cells (cfA p0 p1 p2 p3 p4 p5 p6) 23 (0,0)),.b b4_ (.cells #[.U 0,.U 0] 79 (0,0)),.b bo15_1_ (.cells #[.U t22_,.U t28_] 79 (0,0)),.f (KU A1 c1 l1)]) ?_ ?_
 ·
  rintro bo15_1_
  refine a_w (F:=[(0,.agg (cfA p0 p1 p2 p3 p4 p5 p6)),(1,.slice A1 l1.length c1),(2,.I a2),(3,.I a3),(4,.P b3_),(8,.slice none 0 0),(9,.P b4_),(10,.P bo15_1_),(13,.I a2),(14,.agg (cfA p0 p1 p2 p3 p4 p5 p6)),(15,.slice A1 l1.length c1),(16,.I a2),(17,.U t18_),(18,.I t20_),(19,.U t22_),(20,.I a3),(21,.agg (cfA p0 p1 p2 p3 p4 p5 p6)),(22,.slice A1 l1.length c1),(23,.I a3),(24,.U t24_),(25,.I t26_),(26,.U t28_),(27,.agg #[.U t22_,.U t28_])]) (L:=[.b b3_ (.cells (cfA p0 p1 p2 p3 p4 p5 p6) 23 (0,0)),.b b4_ (.cells #[.U 0,.U 0] 79 (0,0)),.b bo15_1_ (.cells #[.U t22_,.U t28_] 79 (0,0)),.f (KU A1 c1 l1)]) ?_
  refine a_end (by kernel_rfl) ?_
  refine q_seq ?_
  refine c_seq rfl ?_
  obtain ⟨t43_,e44_,H⟩:=bind_s H
  obtain ⟨t45_,e46_,H⟩:=bind_s H
  obtain ⟨t47_,e48_,H⟩:=bind_s H
  obtain ⟨t49_,e50_,H⟩:=bind_s H
  refine r_any [.b b3_ (.cells (cfA p0 p1 p2 p3 p4 p5 p6) 23 (0,0)),.b b4_ (.cells #[.U 0,.U 0] 79 (0,0)),.b bo15_1_ (.cells #[.U t22_,.U t28_] 79 (0,0)),.f (KU A1 c1 l1)] (by kernel_rfl) rfl (by kernel_rfl) (mem_pick (idx:=[0,1,2,3]) rfl) ?_
  refine aV 0 rfl (by kernel_rfl) (vLA (lfA p0 p1 p2 p3 p4 p5 p6) 0 Tryz.underlying23 SZ23 rfl) ?_
  refine aV 1 rfl (by kernel_rfl) (vM rfl) ?_
  refine aV 2 rfl (by kernel_rfl) (vM rfl) ?_
  refine aV 3 rfl (by kernel_rfl) (vLA (lfA p0 p1 p2 p3 p4 p5 p6) 0 Tryz.underlying23 SZ23 rfl) ?_
  refine aV 4 rfl (by kernel_rfl) (vM rfl) ?_
  refine aV 5 rfl (by kernel_rfl) (vM rfl) ?_
  refine a_1 (i:=6) (by kernel_rfl) ?_
  refine i_e rfl rfl (eC [3] #[.agg (cfA p0 p1 p2 p3 p4 p5 p6),.slice A1 l1.length c1,.I a3,.I 0] Tryz.func38 (by decide) rfl (fun w ht=>sr22_at_con p0 p1 p2 p3 p4 p5 p6 A1 c1 l1 a3 0 t43_ e44_ w _)) ?_
  refine ⟨(mem_pick (idx:=[0,1,2,3]) rfl),?_⟩
  refine a_1 (i:=7) (by kernel_rfl) ?_
  refine i_e rfl rfl (eC [] #[.U t43_] Tryz.func90 (by decide) rfl (fun w ht=>sr02_Gen_con t43_ t45_ e46_ w _)) ?_
  refine ⟨(mem_pick (idx:=[0,1,2,3]) rfl),?_⟩
  refine a_1 (i:=8) (by kernel_rfl) ?_
  refine i_e rfl rfl (eC [] #[.I t45_] Tryz.func18 (by decide) rfl (fun w ht=>sr02_Taken_con t45_ t47_ e48_ w _)) ?_
  refine ⟨(mem_pick (idx:=[0,1,2,3]) rfl),?_⟩
  refine a_1 (i:=9) (by kernel_rfl) ?_
  refine i_e rfl rfl (eC [3] #[.agg (cfA p0 p1 p2 p3 p4 p5 p6),.slice A1 l1.length c1,.I a3,.I 0,.U t47_] Tryz.func40 (by decide) rfl (fun w ht=>sr22_with_con p0 p1 p2 p3 p4 p5 p6 A1 c1 l1 a3 0 t47_ t49_ e50_ w _)) ?_
  intro A53_ c54_
  refine ⟨(mem_pick (idx:=[1,2,3,4]) rfl),?_⟩
  refine aV 10 rfl (by kernel_rfl) (vA rfl) ?_
  refine a_end (by kernel_rfl) ?_
  refine q_seq ?_
  refine c_seq rfl ?_
  refine c_seq rfl ?_
  refine r_ordb (l:=[0]) rfl (by kernel_rfl) ?_
  refine sA rfl ?_
  refine sQ ?_
  refine c_block rfl ?_
  refine c_weak 0 rfl (fun w_ h_=>h_) ?_
  refine c_loop (σ:=Nat × Int × Option Addr × Nat × List Int) (fun (k,x69_,A66_,c67_,l68_)=>sr22_moves.l0 k p0 p1 p2 p3 p4 p5 p6 l1 a2 a3 t22_ t28_ x69_ l68_=some (r0,r1,r2)) (fun (k,x69_,A66_,c67_,l68_)=>k) (fun (k,x69_,A66_,c67_,l68_)=>[(1,.slice A1 l1.length c1),(2,.I a2),(3,.I a3),(4,.P b3_),(8,.slice none 0 0),(9,.P b4_),(10,.P bo15_1_),(11,.slice A66_ l68_.length c67_),(12,.I x69_)]) (fun (k,x69_,A66_,c67_,l68_)=>[.f (KU A53_ c54_ t49_),.b b3_ (.cells (cfA p0 p1 p2 p3 p4 p5 p6) 23 (0,0)),.b b4_ (.cells #[.U 0,.U 0] 79 (0,0)),.b bo15_1_ (.cells #[.U t22_,.U t28_] 79 (0,0)),.f (KU A1 c1 l1),.f (KU A66_ c67_ l68_)]) (k,1,A53_,c54_,t49_) [1,2,3,4,5,0] rfl H (subF_spec ⟨rfl,rfl,rfl,rfl,rfl,rfl,rfl,rfl,rfl,trivial⟩) rfl (by decide) ?_
  rintro ⟨k0_,x69_,A66_,c67_,l68_⟩ hs81_
  clear H
  have H:sr22_moves.l0 k0_ p0 p1 p2 p3 p4 p5 p6 l1 a2 a3 t22_ t28_ x69_ l68_=some (r0,r1,r2):=hs81_
  try clear hs81_
  rcases k0_ with _ | k0_
  ·exact none_no (show none=_ from H)
  unfold sr22_moves.l0 at H
  have hko_0:k0_≤k0_:=Nat.le_refl _
  refine c_seq rfl ?_
  refine c_seq rfl ?_
  refine r_ordb (l:=[0,1,2,3,4]) rfl (by kernel_rfl) ?_
  refine sM rfl ?_
  refine sV rfl (vF Tryz.underlying23 SZ3 rfl) ?_
  refine sV rfl (vL 1 Tryz.underlying3 rfl) ?_
  refine sR rfl ?_
  refine sR rfl ?_
  refine sQ ?_
  rcases Bool.eq_false_or_eq_true (decide ((x69_:Int)<(IntKind.wrap .i64 (6+p3)))) with h85_ | h85_
  ·
   replace H:=ite_y (dec_t h85_) H
   refine cT h85_ rfl ?_
   refine kQ rfl ?_
   refine c_seq rfl ?_
   refine c_block rfl ?_
   obtain ⟨t95_,e96_,H⟩:=bind_s H
   obtain ⟨t97_,e98_,H⟩:=bind_s H
   refine r_any [.f (KU A53_ c54_ t49_),.b b3_ (.cells (cfA p0 p1 p2 p3 p4 p5 p6) 23 (0,0)),.b b4_ (.cells #[.U 0,.U 0] 79 (0,0)),.b bo15_1_ (.cells #[.U t22_,.U t28_] 79 (0,0)),.f (KU A1 c1 l1),.f (KU A66_ c67_ l68_)] (by kernel_rfl) rfl (by kernel_rfl) (mem_pick (idx:=[0,1,2,3,4,5]) rfl) ?_
   refine aV 0 rfl (by kernel_rfl) (vLA (lfA p0 p1 p2 p3 p4 p5 p6) 1 Tryz.underlying23 SZ23 rfl) ?_
   refine aV 1 rfl (by kernel_rfl) (vM rfl) ?_
   refine aV 2 rfl (by kernel_rfl) (vM rfl) ?_
   refine aV 3 rfl (by kernel_rfl) (vM rfl) ?_
   refine aV 4 rfl (by kernel_rfl) (vLA (lfA p0 p1 p2 p3 p4 p5 p6) 1 Tryz.underlying23 SZ23 rfl) ?_
   refine aV 5 rfl (by kernel_rfl) (vM rfl) ?_
   refine aV 6 rfl (by kernel_rfl) (vM rfl) ?_
   refine aV 7 rfl (by kernel_rfl) (vM rfl) ?_
   refine a_1 (i:=8) (by kernel_rfl) ?_
   refine i_e rfl rfl (eC [4] #[.agg (cfA p0 p1 p2 p3 p4 p5 p6),.slice A1 l1.length c1,.I a2,.I x69_] Tryz.func38 (by decide) rfl (fun w ht=>sr22_at_con p0 p1 p2 p3 p4 p5 p6 A1 c1 l1 a2 x69_ t95_ e96_ w _)) ?_
   refine ⟨(mem_pick (idx:=[0,1,2,3,4,5]) rfl),?_⟩
   refine a_1 (i:=9) (by kernel_rfl) ?_
   refine i_e rfl rfl (eC [5] #[.agg (cfA p0 p1 p2 p3 p4 p5 p6),.slice A66_ l68_.length c67_,.I a3,.I x69_,.U t95_] Tryz.func40 (by decide) rfl (fun w ht=>sr22_with_con p0 p1 p2 p3 p4 p5 p6 A66_ c67_ l68_ a3 x69_ t95_ t97_ e98_ w _)) ?_
   intro A101_ c102_
   refine ⟨(mem_pick (idx:=[1,2,3,4,5,6]) rfl),?_⟩
   refine aV 10 rfl (by kernel_rfl) (vA rfl) ?_
   refine a_end (by kernel_rfl) ?_
   refine q_block ?_
   refine q_seq ?_
   refine r_ordb (l:=[0,1,2]) rfl (by kernel_rfl) ?_
   refine sM rfl ?_
   refine sR rfl ?_
   refine sA rfl ?_
   refine s_end ?_
   exact q_again (k0_,IntKind.wrap .i64 (x69_+1),A101_,c102_,t97_) [1,2,3,4,5,0] H (Nat.lt_succ_of_le hko_0) (subF_spec ⟨rfl,rfl,rfl,rfl,rfl,rfl,rfl,rfl,rfl,trivial⟩) rfl (by decide)
  ·
   replace H:=ite_n (dec_f h85_) H
   refine cF h85_ rfl ?_
   refine c_exit (i:=0) rfl rfl ?_
   refine q_then_exit ?_
   refine q_then_exit ?_
   refine q_block_here rfl ?_
   refine q_seq ?_
   refine c_seq rfl ?_
   obtain ⟨t110_,e111_,H⟩:=bind_s H
   refine r_any [.f (KU A53_ c54_ t49_),.b b3_ (.cells (cfA p0 p1 p2 p3 p4 p5 p6) 23 (0,0)),.b bo15_1_ (.cells #[.U t22_,.U t28_] 79 (0,0)),.f (KU A1 c1 l1),.f (KU A66_ c67_ l68_)] (by kernel_rfl) rfl (by kernel_rfl) (mem_pick (idx:=[0,1,3,4,5]) rfl) ?_
   refine aV 0 rfl (by kernel_rfl) (vLA (lfA p0 p1 p2 p3 p4 p5 p6) 1 Tryz.underlying23 SZ23 rfl) ?_
   refine aV 1 rfl (by kernel_rfl) (vM rfl) ?_
   refine aV 2 rfl (by kernel_rfl) (vM rfl) ?_
   refine aV 4 rfl (by kernel_rfl) (vLA [.U t22_,.U t28_] 2 Tryz.underlying79 SZ79 rfl) ?_
   refine a_1 (i:=3) (by kernel_rfl) ?_
   refine i_e rfl rfl (eC [5] #[.agg (cfA p0 p1 p2 p3 p4 p5 p6),.slice A66_ l68_.length c67_,.I a2] Tryz.func36 (by decide) rfl (fun w ht=>sr22_frees_con p0 p1 p2 p3 p4 p5 p6 A66_ c67_ l68_ a2 t110_ e111_ w _)) ?_
   intro A114_ c115_
   refine ⟨(mem_pick (idx:=[1,2,4,5,6]) rfl),?_⟩
   refine aV 5 rfl (by kernel_rfl) (vA rfl) ?_
   refine a_1 (i:=6) (by kernel_rfl) ?_
   refine i_e rfl rfl (e_stA 3 rfl rfl SZ79 rfl rfl rfl rfl rfl rfl) ?_
   refine ⟨(mem_pick (idx:=[1,2,4,5,6]) rfl),?_⟩
   refine a_end (by kernel_rfl) ?_
   refine q_seq ?_
   refine c_ret rfl ?_
   have hq_0:=Option.some.inj H
   obtain ⟨ee_0,hq_1⟩:=Prod.mk.inj hq_0
   obtain ⟨ee_1,hq_2⟩:=Prod.mk.inj hq_1
   subst ee_0
   subst ee_1
   subst hq_2
   exact q_ret (vs:=[.slice A114_ t110_.length c115_,.agg #[.U t22_,.U t28_]]) rfl (.tmp rfl (.agg [.U t22_,.U t28_] 3 rfl Tryz.underlying79 rfl SZ79 rfl rfl rfl .nil)) [0] rfl (by decide) (hX A114_ c115_)
 intro J4_5_6_11_12_13_15_16
 refine a_join (β:=Nat) 1 #[true,true,true,true,true,true,true,true,true,true,true,true,true,true,true,true,false] (fun bo15_1_=>[(0,.agg (cfA p0 p1 p2 p3 p4 p5 p6)),(1,.slice A1 l1.length c1),(2,.I a2),(3,.I a3),(4,.P b3_),(8,.slice none 0 0),(9,.P b4_),(10,.P bo15_1_),(13,.I a2),(14,.agg (cfA p0 p1 p2 p3 p4 p5 p6)),(15,.slice A1 l1.length c1),(16,.I a2),(17,.U t18_),(18,.I t20_),(19,.U t22_),(20,.I a3),(21,.agg (cfA p0 p1 p2 p3 p4 p5 p6)),(22,.slice A1 l1.length c1),(23,.I a3),(24,.U t24_),(25,.I t26_),(26,.U t28_),(27,.agg #[.U t22_,.U t28_])]) (fun bo15_1_=>[.b b3_ (.cells (cfA p0 p1 p2 p3 p4 p5 p6) 23 (0,0)),.b b4_ (.cells #[.U 0,.U 0] 79 (0,0)),.b bo15_1_ (.cells #[.U 0,.U 0] 79 (0,0)),.f (KU A1 c1 l1)]) ?_ ?_
 ·
  rintro bo15_1_
  refine a_w (F:=[(0,.agg (cfA p0 p1 p2 p3 p4 p5 p6)),(1,.slice A1 l1.length c1),(2,.I a2),(3,.I a3),(4,.P b3_),(8,.slice none 0 0),(9,.P b4_),(10,.P bo15_1_),(13,.I a2),(14,.agg (cfA p0 p1 p2 p3 p4 p5 p6)),(15,.slice A1 l1.length c1),(16,.I a2),(17,.U t18_),(18,.I t20_),(19,.U t22_),(20,.I a3),(21,.agg (cfA p0 p1 p2 p3 p4 p5 p6)),(22,.slice A1 l1.length c1),(23,.I a3),(24,.U t24_),(25,.I t26_),(26,.U t28_),(27,.agg #[.U t22_,.U t28_])]) (L:=[.b b3_ (.cells (cfA p0 p1 p2 p3 p4 p5 p6) 23 (0,0)),.b b4_ (.cells #[.U 0,.U 0] 79 (0,0)),.b bo15_1_ (.cells #[.U 0,.U 0] 79 (0,0)),.f (KU A1 c1 l1)]) ?_
  refine a_1 (i:=16) (by kernel_rfl) ?_
  ·
   refine i_e rfl rfl (e_stA 2 rfl rfl SZ79 rfl rfl rfl rfl rfl rfl) ?_
   refine ⟨(mem_pick (idx:=[1,0,3]) rfl),?_⟩
   exact a_take (J4_5_6_11_12_13_15_16 bo15_1_) [0,1,2,3] (by kernel_rfl) rfl (subF_spec ⟨rfl,rfl,rfl,rfl,rfl,rfl,rfl,rfl,rfl,rfl,rfl,rfl,rfl,rfl,rfl,rfl,rfl,rfl,rfl,rfl,rfl,rfl,rfl,trivial⟩) rfl (by decide)
 intro J4_5_6_11_12_13_15
 refine a_join (β:=Unit) 2 #[true,true,true,true,true,true,true,true,true,true,true,true,true,true,true,false,false] (fun _=>[(0,.agg (cfA p0 p1 p2 p3 p4 p5 p6)),(1,.slice A1 l1.length c1),(2,.I a2),(3,.I a3),(4,.P b3_),(8,.slice none 0 0),(9,.P b4_),(13,.I a2),(14,.agg (cfA p0 p1 p2 p3 p4 p5 p6)),(15,.slice A1 l1.length c1),(16,.I a2),(17,.U t18_),(18,.I t20_),(19,.U t22_),(20,.I a3),(21,.agg (cfA p0 p1 p2 p3 p4 p5 p6)),(22,.slice A1 l1.length c1),(23,.I a3),(24,.U t24_),(25,.I t26_),(26,.U t28_),(27,.agg #[.U t22_,.U t28_])]) (fun _=>[.b b3_ (.cells (cfA p0 p1 p2 p3 p4 p5 p6) 23 (0,0)),.b b4_ (.cells #[.U 0,.U 0] 79 (0,0)),.f (KU A1 c1 l1)]) ?_ ?_
 ·
  rintro _
  refine a_w (F:=[(0,.agg (cfA p0 p1 p2 p3 p4 p5 p6)),(1,.slice A1 l1.length c1),(2,.I a2),(3,.I a3),(4,.P b3_),(8,.slice none 0 0),(9,.P b4_),(13,.I a2),(14,.agg (cfA p0 p1 p2 p3 p4 p5 p6)),(15,.slice A1 l1.length c1),(16,.I a2),(17,.U t18_),(18,.I t20_),(19,.U t22_),(20,.I a3),(21,.agg (cfA p0 p1 p2 p3 p4 p5 p6)),(22,.slice A1 l1.length c1),(23,.I a3),(24,.U t24_),(25,.I t26_),(26,.U t28_),(27,.agg #[.U t22_,.U t28_])]) (L:=[.b b3_ (.cells (cfA p0 p1 p2 p3 p4 p5 p6) 23 (0,0)),.b b4_ (.cells #[.U 0,.U 0] 79 (0,0)),.f (KU A1 c1 l1)]) ?_
  refine a_1 (i:=15) (by kernel_rfl) ?_
  ·
   refine i_e rfl rfl (e_alloc rfl rfl rfl ZR79) ?_
   intro bo15_1_
   refine ⟨(mem_pick (idx:=[2,1,3]) rfl),?_⟩
   exact a_take (J4_5_6_11_12_13_15 bo15_1_) [1,2,0,3] (by kernel_rfl) rfl (subF_spec ⟨rfl,rfl,rfl,rfl,rfl,rfl,rfl,rfl,rfl,rfl,rfl,rfl,rfl,rfl,rfl,rfl,rfl,rfl,rfl,rfl,rfl,rfl,rfl,trivial⟩) rfl (by decide)
 intro J4_5_6_11_12_13
 refine a_join (β:=Nat) 3 #[true,true,true,true,true,true,true,true,true,true,true,true,true,false,false,true,false] (fun bo15_1_=>[(0,.agg (cfA p0 p1 p2 p3 p4 p5 p6)),(1,.slice A1 l1.length c1),(2,.I a2),(3,.I a3),(4,.P b3_),(8,.slice none 0 0),(9,.P b4_),(10,.P bo15_1_),(13,.I a2),(14,.agg (cfA p0 p1 p2 p3 p4 p5 p6)),(15,.slice A1 l1.length c1),(16,.I a2),(17,.U t18_),(18,.I t20_),(19,.U t22_),(20,.I a3),(21,.agg (cfA p0 p1 p2 p3 p4 p5 p6)),(22,.slice A1 l1.length c1),(23,.I a3),(24,.U t24_),(25,.I t26_)]) (fun bo15_1_=>[.b b3_ (.cells (cfA p0 p1 p2 p3 p4 p5 p6) 23 (0,0)),.b b4_ (.cells #[.U 0,.U 0] 79 (0,0)),.b bo15_1_ (.cells #[.U 0,.U 0] 79 (0,0)),.f (KU A1 c1 l1)]) ?_ ?_
 ·
  rintro bo15_1_
  refine a_w (F:=[(0,.agg (cfA p0 p1 p2 p3 p4 p5 p6)),(1,.slice A1 l1.length c1),(2,.I a2),(3,.I a3),(4,.P b3_),(8,.slice none 0 0),(9,.P b4_),(10,.P bo15_1_),(13,.I a2),(14,.agg (cfA p0 p1 p2 p3 p4 p5 p6)),(15,.slice A1 l1.length c1),(16,.I a2),(17,.U t18_),(18,.I t20_),(19,.U t22_),(20,.I a3),(21,.agg (cfA p0 p1 p2 p3 p4 p5 p6)),(22,.slice A1 l1.length c1),(23,.I a3),(24,.U t24_),(25,.I t26_)]) (L:=[.b b3_ (.cells (cfA p0 p1 p2 p3 p4 p5 p6) 23 (0,0)),.b b4_ (.cells #[.U 0,.U 0] 79 (0,0)),.b bo15_1_ (.cells #[.U 0,.U 0] 79 (0,0)),.f (KU A1 c1 l1)]) ?_
  refine a_1 (i:=13) (by kernel_rfl) ?_
  ·
   refine i_e rfl rfl (eC [] #[.I a3,.I t26_] Tryz.func21 (by decide) rfl (fun w ht=>sr01_Of_con a3 t26_ t28_ e29_ w _)) ?_
   refine ⟨(mem_pick (idx:=[1,0,3]) rfl),?_⟩
   refine aV 14 rfl (by kernel_rfl) (v_build (places:=#[(0,1),(1,1)]) #[.U t22_,.U t28_] rfl ZR79 Tryz.underlying79 (by kernel_rfl) rfl (by kernel_rfl)) ?_
   exact a_take (J4_5_6_11_12_13_15 bo15_1_) [0,1,2,3] (by kernel_rfl) rfl (subF_spec ⟨rfl,rfl,rfl,rfl,rfl,rfl,rfl,rfl,rfl,rfl,rfl,rfl,rfl,rfl,rfl,rfl,rfl,rfl,rfl,rfl,rfl,rfl,rfl,trivial⟩) rfl (by decide)
 intro J4_5_6_11_12_15
 refine a_join (β:=Unit) 4 #[true,true,true,true,true,true,true,true,true,true,true,true,true,false,false,false,false] (fun _=>[(0,.agg (cfA p0 p1 p2 p3 p4 p5 p6)),(1,.slice A1 l1.length c1),(2,.I a2),(3,.I a3),(4,.P b3_),(8,.slice none 0 0),(9,.P b4_),(13,.I a2),(14,.agg (cfA p0 p1 p2 p3 p4 p5 p6)),(15,.slice A1 l1.length c1),(16,.I a2),(17,.U t18_),(18,.I t20_),(19,.U t22_),(20,.I a3),(21,.agg (cfA p0 p1 p2 p3 p4 p5 p6)),(22,.slice A1 l1.length c1),(23,.I a3),(24,.U t24_),(25,.I t26_)]) (fun _=>[.b b3_ (.cells (cfA p0 p1 p2 p3 p4 p5 p6) 23 (0,0)),.b b4_ (.cells #[.U 0,.U 0] 79 (0,0)),.f (KU A1 c1 l1)]) ?_ ?_
 ·
  rintro _
  refine a_w (F:=[(0,.agg (cfA p0 p1 p2 p3 p4 p5 p6)),(1,.slice A1 l1.length c1),(2,.I a2),(3,.I a3),(4,.P b3_),(8,.slice none 0 0),(9,.P b4_),(13,.I a2),(14,.agg (cfA p0 p1 p2 p3 p4 p5 p6)),(15,.slice A1 l1.length c1),(16,.I a2),(17,.U t18_),(18,.I t20_),(19,.U t22_),(20,.I a3),(21,.agg (cfA p0 p1 p2 p3 p4 p5 p6)),(22,.slice A1 l1.length c1),(23,.I a3),(24,.U t24_),(25,.I t26_)]) (L:=[.b b3_ (.cells (cfA p0 p1 p2 p3 p4 p5 p6) 23 (0,0)),.b b4_ (.cells #[.U 0,.U 0] 79 (0,0)),.f (KU A1 c1 l1)]) ?_
  refine a_2 (i:=13) (j:=15) (by kernel_rfl) ?_ ?_
  ·
   refine i_e rfl rfl (eC [] #[.I a3,.I t26_] Tryz.func21 (by decide) rfl (fun w ht=>sr01_Of_con a3 t26_ t28_ e29_ w _)) ?_
   refine ⟨(mem_pick (idx:=[1,0,2]) rfl),?_⟩
   refine aV 14 rfl (by kernel_rfl) (v_build (places:=#[(0,1),(1,1)]) #[.U t22_,.U t28_] rfl ZR79 Tryz.underlying79 (by kernel_rfl) rfl (by kernel_rfl)) ?_
   exact a_take (J4_5_6_11_12_13 ()) [0,1,2] (by kernel_rfl) rfl (subF_spec ⟨rfl,rfl,rfl,rfl,rfl,rfl,rfl,rfl,rfl,rfl,rfl,rfl,rfl,rfl,rfl,rfl,rfl,rfl,rfl,rfl,rfl,rfl,trivial⟩) rfl (by decide)
  ·
   refine i_e rfl rfl (e_alloc rfl rfl rfl ZR79) ?_
   intro bo15_1_
   refine ⟨(mem_pick (idx:=[2,1,3]) rfl),?_⟩
   exact a_take (J4_5_6_11_12_15 bo15_1_) [1,2,0,3] (by kernel_rfl) rfl (subF_spec ⟨rfl,rfl,rfl,rfl,rfl,rfl,rfl,rfl,rfl,rfl,rfl,rfl,rfl,rfl,rfl,rfl,rfl,rfl,rfl,rfl,rfl,trivial⟩) rfl (by decide)
 intro J4_5_6_11_12
 refine a_join (β:=Nat) 4 #[true,true,true,true,true,true,true,true,true,true,true,true,false,false,false,true,false] (fun bo15_1_=>[(0,.agg (cfA p0 p1 p2 p3 p4 p5 p6)),(1,.slice A1 l1.length c1),(2,.I a2),(3,.I a3),(4,.P b3_),(8,.slice none 0 0),(9,.P b4_),(10,.P bo15_1_),(13,.I a2),(14,.agg (cfA p0 p1 p2 p3 p4 p5 p6)),(15,.slice A1 l1.length c1),(16,.I a2),(17,.U t18_),(18,.I t20_),(19,.U t22_),(20,.I a3),(21,.agg (cfA p0 p1 p2 p3 p4 p5 p6)),(22,.slice A1 l1.length c1),(23,.I a3),(24,.U t24_)]) (fun bo15_1_=>[.b b3_ (.cells (cfA p0 p1 p2 p3 p4 p5 p6) 23 (0,0)),.b b4_ (.cells #[.U 0,.U 0] 79 (0,0)),.b bo15_1_ (.cells #[.U 0,.U 0] 79 (0,0)),.f (KU A1 c1 l1)]) ?_ ?_
 ·
  rintro bo15_1_
  refine a_w (F:=[(0,.agg (cfA p0 p1 p2 p3 p4 p5 p6)),(1,.slice A1 l1.length c1),(2,.I a2),(3,.I a3),(4,.P b3_),(8,.slice none 0 0),(9,.P b4_),(10,.P bo15_1_),(13,.I a2),(14,.agg (cfA p0 p1 p2 p3 p4 p5 p6)),(15,.slice A1 l1.length c1),(16,.I a2),(17,.U t18_),(18,.I t20_),(19,.U t22_),(20,.I a3),(21,.agg (cfA p0 p1 p2 p3 p4 p5 p6)),(22,.slice A1 l1.length c1),(23,.I a3),(24,.U t24_)]) (L:=[.b b3_ (.cells (cfA p0 p1 p2 p3 p4 p5 p6) 23 (0,0)),.b b4_ (.cells #[.U 0,.U 0] 79 (0,0)),.b bo15_1_ (.cells #[.U 0,.U 0] 79 (0,0)),.f (KU A1 c1 l1)]) ?_
  refine a_1 (i:=12) (by kernel_rfl) ?_
  ·
   refine i_e rfl rfl (eC [] #[.U t24_] Tryz.func90 (by decide) rfl (fun w ht=>sr02_Gen_con t24_ t26_ e27_ w _)) ?_
   refine ⟨(mem_pick (idx:=[1,0,3]) rfl),?_⟩
   exact a_take (J4_5_6_11_12_15 bo15_1_) [0,1,2,3] (by kernel_rfl) rfl (subF_spec ⟨rfl,rfl,rfl,rfl,rfl,rfl,rfl,rfl,rfl,rfl,rfl,rfl,rfl,rfl,rfl,rfl,rfl,rfl,rfl,rfl,rfl,trivial⟩) rfl (by decide)
 intro J4_5_6_11_15
 refine a_join (β:=Unit) 5 #[true,true,true,true,true,true,true,true,true,true,true,true,false,false,false,false,false] (fun _=>[(0,.agg (cfA p0 p1 p2 p3 p4 p5 p6)),(1,.slice A1 l1.length c1),(2,.I a2),(3,.I a3),(4,.P b3_),(8,.slice none 0 0),(9,.P b4_),(13,.I a2),(14,.agg (cfA p0 p1 p2 p3 p4 p5 p6)),(15,.slice A1 l1.length c1),(16,.I a2),(17,.U t18_),(18,.I t20_),(19,.U t22_),(20,.I a3),(21,.agg (cfA p0 p1 p2 p3 p4 p5 p6)),(22,.slice A1 l1.length c1),(23,.I a3),(24,.U t24_)]) (fun _=>[.b b3_ (.cells (cfA p0 p1 p2 p3 p4 p5 p6) 23 (0,0)),.b b4_ (.cells #[.U 0,.U 0] 79 (0,0)),.f (KU A1 c1 l1)]) ?_ ?_
 ·
  rintro _
  refine a_w (F:=[(0,.agg (cfA p0 p1 p2 p3 p4 p5 p6)),(1,.slice A1 l1.length c1),(2,.I a2),(3,.I a3),(4,.P b3_),(8,.slice none 0 0),(9,.P b4_),(13,.I a2),(14,.agg (cfA p0 p1 p2 p3 p4 p5 p6)),(15,.slice A1 l1.length c1),(16,.I a2),(17,.U t18_),(18,.I t20_),(19,.U t22_),(20,.I a3),(21,.agg (cfA p0 p1 p2 p3 p4 p5 p6)),(22,.slice A1 l1.length c1),(23,.I a3),(24,.U t24_)]) (L:=[.b b3_ (.cells (cfA p0 p1 p2 p3 p4 p5 p6) 23 (0,0)),.b b4_ (.cells #[.U 0,.U 0] 79 (0,0)),.f (KU A1 c1 l1)]) ?_
  refine a_2 (i:=12) (j:=15) (by kernel_rfl) ?_ ?_
  ·
   refine i_e rfl rfl (eC [] #[.U t24_] Tryz.func90 (by decide) rfl (fun w ht=>sr02_Gen_con t24_ t26_ e27_ w _)) ?_
   refine ⟨(mem_pick (idx:=[1,0,2]) rfl),?_⟩
   exact a_take (J4_5_6_11_12 ()) [0,1,2] (by kernel_rfl) rfl (subF_spec ⟨rfl,rfl,rfl,rfl,rfl,rfl,rfl,rfl,rfl,rfl,rfl,rfl,rfl,rfl,rfl,rfl,rfl,rfl,rfl,rfl,trivial⟩) rfl (by decide)
  ·
   refine i_e rfl rfl (e_alloc rfl rfl rfl ZR79) ?_
   intro bo15_1_
   refine ⟨(mem_pick (idx:=[2,1,3]) rfl),?_⟩
   exact a_take (J4_5_6_11_15 bo15_1_) [1,2,0,3] (by kernel_rfl) rfl (subF_spec ⟨rfl,rfl,rfl,rfl,rfl,rfl,rfl,rfl,rfl,rfl,rfl,rfl,rfl,rfl,rfl,rfl,rfl,rfl,rfl,rfl,trivial⟩) rfl (by decide)
 intro J4_5_6_11
 refine a_join (β:=Nat) 5 #[true,true,true,true,true,true,true,true,true,true,true,false,false,false,false,true,false] (fun bo15_1_=>[(0,.agg (cfA p0 p1 p2 p3 p4 p5 p6)),(1,.slice A1 l1.length c1),(2,.I a2),(3,.I a3),(4,.P b3_),(8,.slice none 0 0),(9,.P b4_),(10,.P bo15_1_),(13,.I a2),(14,.agg (cfA p0 p1 p2 p3 p4 p5 p6)),(15,.slice A1 l1.length c1),(16,.I a2),(17,.U t18_),(18,.I t20_),(19,.U t22_),(20,.I a3),(21,.agg (cfA p0 p1 p2 p3 p4 p5 p6)),(22,.slice A1 l1.length c1),(23,.I a3)]) (fun bo15_1_=>[.b b3_ (.cells (cfA p0 p1 p2 p3 p4 p5 p6) 23 (0,0)),.b b4_ (.cells #[.U 0,.U 0] 79 (0,0)),.b bo15_1_ (.cells #[.U 0,.U 0] 79 (0,0)),.f (KU A1 c1 l1)]) ?_ ?_
 ·
  rintro bo15_1_
  refine a_w (F:=[(0,.agg (cfA p0 p1 p2 p3 p4 p5 p6)),(1,.slice A1 l1.length c1),(2,.I a2),(3,.I a3),(4,.P b3_),(8,.slice none 0 0),(9,.P b4_),(10,.P bo15_1_),(13,.I a2),(14,.agg (cfA p0 p1 p2 p3 p4 p5 p6)),(15,.slice A1 l1.length c1),(16,.I a2),(17,.U t18_),(18,.I t20_),(19,.U t22_),(20,.I a3),(21,.agg (cfA p0 p1 p2 p3 p4 p5 p6)),(22,.slice A1 l1.length c1),(23,.I a3)]) (L:=[.b b3_ (.cells (cfA p0 p1 p2 p3 p4 p5 p6) 23 (0,0)),.b b4_ (.cells #[.U 0,.U 0] 79 (0,0)),.b bo15_1_ (.cells #[.U 0,.U 0] 79 (0,0)),.f (KU A1 c1 l1)]) ?_
  refine a_1 (i:=11) (by kernel_rfl) ?_
  ·
   refine i_e rfl rfl (eC [3] #[.agg (cfA p0 p1 p2 p3 p4 p5 p6),.slice A1 l1.length c1,.I a3,.I 0] Tryz.func38 (by decide) rfl (fun w ht=>sr22_at_con p0 p1 p2 p3 p4 p5 p6 A1 c1 l1 a3 0 t24_ e25_ w _)) ?_
   refine ⟨(mem_pick (idx:=[1,0,3]) rfl),?_⟩
   exact a_take (J4_5_6_11_15 bo15_1_) [0,1,2,3] (by kernel_rfl) rfl (subF_spec ⟨rfl,rfl,rfl,rfl,rfl,rfl,rfl,rfl,rfl,rfl,rfl,rfl,rfl,rfl,rfl,rfl,rfl,rfl,rfl,rfl,trivial⟩) rfl (by decide)
 intro J4_5_6_15
 refine a_join (β:=Unit) 6 #[true,true,true,true,true,true,true,true,true,true,true,false,false,false,false,false,false] (fun _=>[(0,.agg (cfA p0 p1 p2 p3 p4 p5 p6)),(1,.slice A1 l1.length c1),(2,.I a2),(3,.I a3),(4,.P b3_),(8,.slice none 0 0),(9,.P b4_),(13,.I a2),(14,.agg (cfA p0 p1 p2 p3 p4 p5 p6)),(15,.slice A1 l1.length c1),(16,.I a2),(17,.U t18_),(18,.I t20_),(19,.U t22_),(20,.I a3),(21,.agg (cfA p0 p1 p2 p3 p4 p5 p6)),(22,.slice A1 l1.length c1),(23,.I a3)]) (fun _=>[.b b3_ (.cells (cfA p0 p1 p2 p3 p4 p5 p6) 23 (0,0)),.b b4_ (.cells #[.U 0,.U 0] 79 (0,0)),.f (KU A1 c1 l1)]) ?_ ?_
 ·
  rintro _
  refine a_w (F:=[(0,.agg (cfA p0 p1 p2 p3 p4 p5 p6)),(1,.slice A1 l1.length c1),(2,.I a2),(3,.I a3),(4,.P b3_),(8,.slice none 0 0),(9,.P b4_),(13,.I a2),(14,.agg (cfA p0 p1 p2 p3 p4 p5 p6)),(15,.slice A1 l1.length c1),(16,.I a2),(17,.U t18_),(18,.I t20_),(19,.U t22_),(20,.I a3),(21,.agg (cfA p0 p1 p2 p3 p4 p5 p6)),(22,.slice A1 l1.length c1),(23,.I a3)]) (L:=[.b b3_ (.cells (cfA p0 p1 p2 p3 p4 p5 p6) 23 (0,0)),.b b4_ (.cells #[.U 0,.U 0] 79 (0,0)),.f (KU A1 c1 l1)]) ?_
  refine a_2 (i:=11) (j:=15) (by kernel_rfl) ?_ ?_
  ·
   refine i_e rfl rfl (eC [2] #[.agg (cfA p0 p1 p2 p3 p4 p5 p6),.slice A1 l1.length c1,.I a3,.I 0] Tryz.func38 (by decide) rfl (fun w ht=>sr22_at_con p0 p1 p2 p3 p4 p5 p6 A1 c1 l1 a3 0 t24_ e25_ w _)) ?_
   refine ⟨(mem_pick (idx:=[1,0,2]) rfl),?_⟩
   exact a_take (J4_5_6_11 ()) [0,1,2] (by kernel_rfl) rfl (subF_spec ⟨rfl,rfl,rfl,rfl,rfl,rfl,rfl,rfl,rfl,rfl,rfl,rfl,rfl,rfl,rfl,rfl,rfl,rfl,rfl,trivial⟩) rfl (by decide)
  ·
   refine i_e rfl rfl (e_alloc rfl rfl rfl ZR79) ?_
   intro bo15_1_
   refine ⟨(mem_pick (idx:=[2,1,3]) rfl),?_⟩
   exact a_take (J4_5_6_15 bo15_1_) [1,2,0,3] (by kernel_rfl) rfl (subF_spec ⟨rfl,rfl,rfl,rfl,rfl,rfl,rfl,rfl,rfl,rfl,rfl,rfl,rfl,rfl,rfl,rfl,rfl,rfl,rfl,trivial⟩) rfl (by decide)
 intro J4_5_6
 refine a_join (β:=Nat) 6 #[true,true,true,true,true,true,false,true,true,true,true,false,false,false,false,true,false] (fun bo15_1_=>[(0,.agg (cfA p0 p1 p2 p3 p4 p5 p6)),(1,.slice A1 l1.length c1),(2,.I a2),(3,.I a3),(4,.P b3_),(8,.slice none 0 0),(9,.P b4_),(10,.P bo15_1_),(13,.I a2),(14,.agg (cfA p0 p1 p2 p3 p4 p5 p6)),(15,.slice A1 l1.length c1),(16,.I a2),(17,.U t18_),(18,.I t20_),(20,.I a3),(21,.agg (cfA p0 p1 p2 p3 p4 p5 p6)),(22,.slice A1 l1.length c1),(23,.I a3)]) (fun bo15_1_=>[.b b3_ (.cells (cfA p0 p1 p2 p3 p4 p5 p6) 23 (0,0)),.b b4_ (.cells #[.U 0,.U 0] 79 (0,0)),.b bo15_1_ (.cells #[.U 0,.U 0] 79 (0,0)),.f (KU A1 c1 l1)]) ?_ ?_
 ·
  rintro bo15_1_
  refine a_w (F:=[(0,.agg (cfA p0 p1 p2 p3 p4 p5 p6)),(1,.slice A1 l1.length c1),(2,.I a2),(3,.I a3),(4,.P b3_),(8,.slice none 0 0),(9,.P b4_),(10,.P bo15_1_),(13,.I a2),(14,.agg (cfA p0 p1 p2 p3 p4 p5 p6)),(15,.slice A1 l1.length c1),(16,.I a2),(17,.U t18_),(18,.I t20_),(20,.I a3),(21,.agg (cfA p0 p1 p2 p3 p4 p5 p6)),(22,.slice A1 l1.length c1),(23,.I a3)]) (L:=[.b b3_ (.cells (cfA p0 p1 p2 p3 p4 p5 p6) 23 (0,0)),.b b4_ (.cells #[.U 0,.U 0] 79 (0,0)),.b bo15_1_ (.cells #[.U 0,.U 0] 79 (0,0)),.f (KU A1 c1 l1)]) ?_
  refine a_1 (i:=6) (by kernel_rfl) ?_
  ·
   refine i_e rfl rfl (eC [] #[.I a2,.I t20_] Tryz.func21 (by decide) rfl (fun w ht=>sr01_Of_con a2 t20_ t22_ e23_ w _)) ?_
   refine ⟨(mem_pick (idx:=[1,0,3]) rfl),?_⟩
   exact a_take (J4_5_6_15 bo15_1_) [0,1,2,3] (by kernel_rfl) rfl (subF_spec ⟨rfl,rfl,rfl,rfl,rfl,rfl,rfl,rfl,rfl,rfl,rfl,rfl,rfl,rfl,rfl,rfl,rfl,rfl,rfl,trivial⟩) rfl (by decide)
 intro J4_5_15
 refine a_join (β:=Unit) 7 #[true,true,true,true,true,true,false,true,true,true,true,false,false,false,false,false,false] (fun _=>[(0,.agg (cfA p0 p1 p2 p3 p4 p5 p6)),(1,.slice A1 l1.length c1),(2,.I a2),(3,.I a3),(4,.P b3_),(8,.slice none 0 0),(9,.P b4_),(13,.I a2),(14,.agg (cfA p0 p1 p2 p3 p4 p5 p6)),(15,.slice A1 l1.length c1),(16,.I a2),(17,.U t18_),(18,.I t20_),(20,.I a3),(21,.agg (cfA p0 p1 p2 p3 p4 p5 p6)),(22,.slice A1 l1.length c1),(23,.I a3)]) (fun _=>[.b b3_ (.cells (cfA p0 p1 p2 p3 p4 p5 p6) 23 (0,0)),.b b4_ (.cells #[.U 0,.U 0] 79 (0,0)),.f (KU A1 c1 l1)]) ?_ ?_
 ·
  rintro _
  refine a_w (F:=[(0,.agg (cfA p0 p1 p2 p3 p4 p5 p6)),(1,.slice A1 l1.length c1),(2,.I a2),(3,.I a3),(4,.P b3_),(8,.slice none 0 0),(9,.P b4_),(13,.I a2),(14,.agg (cfA p0 p1 p2 p3 p4 p5 p6)),(15,.slice A1 l1.length c1),(16,.I a2),(17,.U t18_),(18,.I t20_),(20,.I a3),(21,.agg (cfA p0 p1 p2 p3 p4 p5 p6)),(22,.slice A1 l1.length c1),(23,.I a3)]) (L:=[.b b3_ (.cells (cfA p0 p1 p2 p3 p4 p5 p6) 23 (0,0)),.b b4_ (.cells #[.U 0,.U 0] 79 (0,0)),.f (KU A1 c1 l1)]) ?_
  refine a_2 (i:=6) (j:=15) (by kernel_rfl) ?_ ?_
  ·
   refine i_e rfl rfl (eC [] #[.I a2,.I t20_] Tryz.func21 (by decide) rfl (fun w ht=>sr01_Of_con a2 t20_ t22_ e23_ w _)) ?_
   refine ⟨(mem_pick (idx:=[1,0,2]) rfl),?_⟩
   exact a_take (J4_5_6 ()) [0,1,2] (by kernel_rfl) rfl (subF_spec ⟨rfl,rfl,rfl,rfl,rfl,rfl,rfl,rfl,rfl,rfl,rfl,rfl,rfl,rfl,rfl,rfl,rfl,rfl,trivial⟩) rfl (by decide)
  ·
   refine i_e rfl rfl (e_alloc rfl rfl rfl ZR79) ?_
   intro bo15_1_
   refine ⟨(mem_pick (idx:=[2,1,3]) rfl),?_⟩
   exact a_take (J4_5_15 bo15_1_) [1,2,0,3] (by kernel_rfl) rfl (subF_spec ⟨rfl,rfl,rfl,rfl,rfl,rfl,rfl,rfl,rfl,rfl,rfl,rfl,rfl,rfl,rfl,rfl,rfl,rfl,trivial⟩) rfl (by decide)
 intro J4_5
 refine a_join (β:=Nat) 7 #[true,true,true,true,true,false,false,true,true,true,true,false,false,false,false,true,false] (fun bo15_1_=>[(0,.agg (cfA p0 p1 p2 p3 p4 p5 p6)),(1,.slice A1 l1.length c1),(2,.I a2),(3,.I a3),(4,.P b3_),(8,.slice none 0 0),(9,.P b4_),(10,.P bo15_1_),(13,.I a2),(14,.agg (cfA p0 p1 p2 p3 p4 p5 p6)),(15,.slice A1 l1.length c1),(16,.I a2),(17,.U t18_),(20,.I a3),(21,.agg (cfA p0 p1 p2 p3 p4 p5 p6)),(22,.slice A1 l1.length c1),(23,.I a3)]) (fun bo15_1_=>[.b b3_ (.cells (cfA p0 p1 p2 p3 p4 p5 p6) 23 (0,0)),.b b4_ (.cells #[.U 0,.U 0] 79 (0,0)),.b bo15_1_ (.cells #[.U 0,.U 0] 79 (0,0)),.f (KU A1 c1 l1)]) ?_ ?_
 ·
  rintro bo15_1_
  refine a_w (F:=[(0,.agg (cfA p0 p1 p2 p3 p4 p5 p6)),(1,.slice A1 l1.length c1),(2,.I a2),(3,.I a3),(4,.P b3_),(8,.slice none 0 0),(9,.P b4_),(10,.P bo15_1_),(13,.I a2),(14,.agg (cfA p0 p1 p2 p3 p4 p5 p6)),(15,.slice A1 l1.length c1),(16,.I a2),(17,.U t18_),(20,.I a3),(21,.agg (cfA p0 p1 p2 p3 p4 p5 p6)),(22,.slice A1 l1.length c1),(23,.I a3)]) (L:=[.b b3_ (.cells (cfA p0 p1 p2 p3 p4 p5 p6) 23 (0,0)),.b b4_ (.cells #[.U 0,.U 0] 79 (0,0)),.b bo15_1_ (.cells #[.U 0,.U 0] 79 (0,0)),.f (KU A1 c1 l1)]) ?_
  refine a_1 (i:=5) (by kernel_rfl) ?_
  ·
   refine i_e rfl rfl (eC [] #[.U t18_] Tryz.func90 (by decide) rfl (fun w ht=>sr02_Gen_con t18_ t20_ e21_ w _)) ?_
   refine ⟨(mem_pick (idx:=[1,0,3]) rfl),?_⟩
   exact a_take (J4_5_15 bo15_1_) [0,1,2,3] (by kernel_rfl) rfl (subF_spec ⟨rfl,rfl,rfl,rfl,rfl,rfl,rfl,rfl,rfl,rfl,rfl,rfl,rfl,rfl,rfl,rfl,rfl,rfl,trivial⟩) rfl (by decide)
 intro J4_15
 refine a_join (β:=Unit) 8 #[true,true,true,true,true,false,false,true,true,true,true,false,false,false,false,false,false] (fun _=>[(0,.agg (cfA p0 p1 p2 p3 p4 p5 p6)),(1,.slice A1 l1.length c1),(2,.I a2),(3,.I a3),(4,.P b3_),(8,.slice none 0 0),(9,.P b4_),(13,.I a2),(14,.agg (cfA p0 p1 p2 p3 p4 p5 p6)),(15,.slice A1 l1.length c1),(16,.I a2),(17,.U t18_),(20,.I a3),(21,.agg (cfA p0 p1 p2 p3 p4 p5 p6)),(22,.slice A1 l1.length c1),(23,.I a3)]) (fun _=>[.b b3_ (.cells (cfA p0 p1 p2 p3 p4 p5 p6) 23 (0,0)),.b b4_ (.cells #[.U 0,.U 0] 79 (0,0)),.f (KU A1 c1 l1)]) ?_ ?_
 ·
  rintro _
  refine a_w (F:=[(0,.agg (cfA p0 p1 p2 p3 p4 p5 p6)),(1,.slice A1 l1.length c1),(2,.I a2),(3,.I a3),(4,.P b3_),(8,.slice none 0 0),(9,.P b4_),(13,.I a2),(14,.agg (cfA p0 p1 p2 p3 p4 p5 p6)),(15,.slice A1 l1.length c1),(16,.I a2),(17,.U t18_),(20,.I a3),(21,.agg (cfA p0 p1 p2 p3 p4 p5 p6)),(22,.slice A1 l1.length c1),(23,.I a3)]) (L:=[.b b3_ (.cells (cfA p0 p1 p2 p3 p4 p5 p6) 23 (0,0)),.b b4_ (.cells #[.U 0,.U 0] 79 (0,0)),.f (KU A1 c1 l1)]) ?_
  refine a_2 (i:=5) (j:=15) (by kernel_rfl) ?_ ?_
  ·
   refine i_e rfl rfl (eC [] #[.U t18_] Tryz.func90 (by decide) rfl (fun w ht=>sr02_Gen_con t18_ t20_ e21_ w _)) ?_
   refine ⟨(mem_pick (idx:=[1,0,2]) rfl),?_⟩
   exact a_take (J4_5 ()) [0,1,2] (by kernel_rfl) rfl (subF_spec ⟨rfl,rfl,rfl,rfl,rfl,rfl,rfl,rfl,rfl,rfl,rfl,rfl,rfl,rfl,rfl,rfl,rfl,trivial⟩) rfl (by decide)
  ·
   refine i_e rfl rfl (e_alloc rfl rfl rfl ZR79) ?_
   intro bo15_1_
   refine ⟨(mem_pick (idx:=[2,1,3]) rfl),?_⟩
   exact a_take (J4_15 bo15_1_) [1,2,0,3] (by kernel_rfl) rfl (subF_spec ⟨rfl,rfl,rfl,rfl,rfl,rfl,rfl,rfl,rfl,rfl,rfl,rfl,rfl,rfl,rfl,rfl,rfl,trivial⟩) rfl (by decide)
 intro J4
 refine a_join (β:=Nat) 8 #[true,true,true,true,false,false,false,true,true,true,true,false,false,false,false,true,false] (fun bo15_1_=>[(0,.agg (cfA p0 p1 p2 p3 p4 p5 p6)),(1,.slice A1 l1.length c1),(2,.I a2),(3,.I a3),(4,.P b3_),(8,.slice none 0 0),(9,.P b4_),(10,.P bo15_1_),(13,.I a2),(14,.agg (cfA p0 p1 p2 p3 p4 p5 p6)),(15,.slice A1 l1.length c1),(16,.I a2),(20,.I a3),(21,.agg (cfA p0 p1 p2 p3 p4 p5 p6)),(22,.slice A1 l1.length c1),(23,.I a3)]) (fun bo15_1_=>[.b b3_ (.cells (cfA p0 p1 p2 p3 p4 p5 p6) 23 (0,0)),.b b4_ (.cells #[.U 0,.U 0] 79 (0,0)),.b bo15_1_ (.cells #[.U 0,.U 0] 79 (0,0)),.f (KU A1 c1 l1)]) ?_ ?_
 ·
  rintro bo15_1_
  refine a_w (F:=[(0,.agg (cfA p0 p1 p2 p3 p4 p5 p6)),(1,.slice A1 l1.length c1),(2,.I a2),(3,.I a3),(4,.P b3_),(8,.slice none 0 0),(9,.P b4_),(10,.P bo15_1_),(13,.I a2),(14,.agg (cfA p0 p1 p2 p3 p4 p5 p6)),(15,.slice A1 l1.length c1),(16,.I a2),(20,.I a3),(21,.agg (cfA p0 p1 p2 p3 p4 p5 p6)),(22,.slice A1 l1.length c1),(23,.I a3)]) (L:=[.b b3_ (.cells (cfA p0 p1 p2 p3 p4 p5 p6) 23 (0,0)),.b b4_ (.cells #[.U 0,.U 0] 79 (0,0)),.b bo15_1_ (.cells #[.U 0,.U 0] 79 (0,0)),.f (KU A1 c1 l1)]) ?_
  refine a_1 (i:=4) (by kernel_rfl) ?_
  ·
   refine i_e rfl rfl (eC [3] #[.agg (cfA p0 p1 p2 p3 p4 p5 p6),.slice A1 l1.length c1,.I a2,.I 0] Tryz.func38 (by decide) rfl (fun w ht=>sr22_at_con p0 p1 p2 p3 p4 p5 p6 A1 c1 l1 a2 0 t18_ e19_ w _)) ?_
   refine ⟨(mem_pick (idx:=[1,0,3]) rfl),?_⟩
   exact a_take (J4_15 bo15_1_) [0,1,2,3] (by kernel_rfl) rfl (subF_spec ⟨rfl,rfl,rfl,rfl,rfl,rfl,rfl,rfl,rfl,rfl,rfl,rfl,rfl,rfl,rfl,rfl,rfl,trivial⟩) rfl (by decide)
 intro J15
 refine aV 0 rfl (by kernel_rfl) (vM rfl) ?_
 refine aV 1 rfl (by kernel_rfl) (vLA (lfA p0 p1 p2 p3 p4 p5 p6) 1 Tryz.underlying23 SZ23 rfl) ?_
 refine aV 2 rfl (by kernel_rfl) (vM rfl) ?_
 refine aV 3 rfl (by kernel_rfl) (vM rfl) ?_
 refine aV 7 rfl (by kernel_rfl) (vM rfl) ?_
 refine aV 8 rfl (by kernel_rfl) (vLA (lfA p0 p1 p2 p3 p4 p5 p6) 1 Tryz.underlying23 SZ23 rfl) ?_
 refine aV 9 rfl (by kernel_rfl) (vM rfl) ?_
 refine aV 10 rfl (by kernel_rfl) (vM rfl) ?_
 refine a_2 (i:=4) (j:=15) (by kernel_rfl) ?_ ?_
 ·
  refine i_e rfl rfl (eC [2] #[.agg (cfA p0 p1 p2 p3 p4 p5 p6),.slice A1 l1.length c1,.I a2,.I 0] Tryz.func38 (by decide) rfl (fun w ht=>sr22_at_con p0 p1 p2 p3 p4 p5 p6 A1 c1 l1 a2 0 t18_ e19_ w _)) ?_
  refine ⟨(mem_pick (idx:=[0,1,2]) rfl),?_⟩
  exact a_take (J4 ()) [1,0,2] (by kernel_rfl) rfl (subF_spec ⟨rfl,rfl,rfl,rfl,rfl,rfl,rfl,rfl,rfl,rfl,rfl,rfl,rfl,rfl,rfl,rfl,trivial⟩) rfl (by decide)
 ·
  refine i_e rfl rfl (e_alloc rfl rfl rfl ZR79) ?_
  intro bo15_1_
  refine ⟨(mem_pick (idx:=[1,2,3]) rfl),?_⟩
  exact a_take (J15 bo15_1_) [2,1,0,3] (by kernel_rfl) rfl (subF_spec ⟨rfl,rfl,rfl,rfl,rfl,rfl,rfl,rfl,rfl,rfl,rfl,rfl,rfl,rfl,rfl,rfl,trivial⟩) rfl (by decide)
end Go.Eng
namespace Go.Eng
open Go.Proofs Go.RowKit Go.Proofs.YtgbcnokeaaabfaaGreatW.PrintWords
set_option linter.unusedVariables false
set_option linter.unusedSimpArgs false
def sr22_becomes.l0:Nat→List S79→Int→Int→Option Int
 | 0,_,_,_=>none
 | k+1,l0,a1,x7_=>(if (x7_:Int)<(l0.length:Int) then (if 0≤(x7_:Int) then (if ((rd_T79 l0 x7_).f0:Int)=a1 then some ((rd_T79 l0 x7_).f1) else sr22_becomes.l0 k l0 a1 (IntKind.wrap .i64 (x7_+1))) else none) else some a1)
def sr22_becomes.f (k:Nat) (l0:List S79) (a1:Int):Option Int:=sr22_becomes.l0 k l0 a1 0
set_option maxRecDepth 100000 in
set_option maxHeartbeats 4000000 in
theorem sr22_becomes_con (k:Nat) (A0:Option Addr) (c0:Nat) (l0:List S79) (a1:Int) (r0:Int) (h:sr22_becomes.f k l0 a1=some r0) (w0:World) (Hs:List Nat):Con Tryz.prog 41 #[.slice A0 l0.length c0,.U a1] w0 Hs [.f (KC k79 A0 c0 l0)] (fun X=>X (.U r0) []):=by
 refine con_enter (c:=bodyOf Tryz.f41) Tryz.func41 rfl (m:=25) rfl rfl rfl ?_
 intro X hX _
 have H:=h
 unfold sr22_becomes.f at H
 clear h
 refine c_seq rfl ?_
 refine r_ordb (l:=[0]) rfl (by kernel_rfl) ?_
 refine sA rfl ?_
 refine sE rfl ?_
 refine c_seq rfl ?_
 refine r_ordb (l:=[0]) rfl (by kernel_rfl) ?_
 refine sA rfl ?_
 refine sQ ?_
 refine c_block rfl ?_
 refine c_loop (σ:=Nat × Int) (fun (k,x7_)=>sr22_becomes.l0 k l0 a1 x7_=some r0) (fun (k,x7_)=>k) (fun (k,x7_)=>[(0,.slice A0 l0.length c0),(1,.U a1),(4,.U 0),(5,.I x7_)]) (fun (k,x7_)=>[.f (KC k79 A0 c0 l0)]) (k,0) [0] rfl H (subF_spec ⟨rfl,rfl,rfl,rfl,trivial⟩) rfl (by decide) ?_
 rintro ⟨k0_,x7_⟩ hs15_
 clear H
 have H:sr22_becomes.l0 k0_ l0 a1 x7_=some r0:=hs15_
 try clear hs15_
 rcases k0_ with _ | k0_
 ·exact none_no (show none=_ from H)
 unfold sr22_becomes.l0 at H
 have hko_0:k0_≤k0_:=Nat.le_refl _
 refine c_seq rfl ?_
 refine c_seq rfl ?_
 refine r_ordb (l:=[0,1,2,3]) rfl (by kernel_rfl) ?_
 refine sM rfl ?_
 refine sM rfl ?_
 refine sV rfl (v_len rfl rfl rfl Tryz.underlying75 rfl rfl) ?_
 refine sR rfl ?_
 refine sQ ?_
 rcases Bool.eq_false_or_eq_true (decide ((x7_:Int)<(l0.length:Int))) with h19_ | h19_
 ·
  replace H:=ite_y (dec_t h19_) H
  refine cT h19_ rfl ?_
  refine kQ rfl ?_
  refine c_seq rfl ?_
  refine c_block rfl ?_
  refine c_seq rfl ?_
  refine r_ordb (l:=[0,1,2,3,4,5,6]) rfl (by kernel_rfl) ?_
  refine sM rfl ?_
  refine sM rfl ?_
  obtain ⟨n26_,H⟩:=ite_no H
  refine sV rfl (v_iaK (i:=0) rfl Tryz.underlying75 SZ79 rfl rfl rfl rfl n26_ (dec_t h19_)) ?_
  refine sV rfl (v_fax rfl Tryz.underlying79 rfl SZ41 rfl) ?_
  refine sV rfl (v_ldKf (v := .U ((rd_T79 l0 x7_).f0)) z79 [.U ((rd_T79 l0 x7_).f0),.U ((rd_T79 l0 x7_).f1)] 0 rfl Tryz.underlying41 rfl rfl rfl rfl n26_ (dec_t h19_) (fun w K h=>k79_open h) rfl) ?_
  refine sM rfl ?_
  refine sR rfl ?_
  refine sQ ?_
  rcases Bool.eq_false_or_eq_true (((rd_T79 l0 x7_).f0:Int) == a1) with h27_ | h27_
  ·
   replace H:=ite_y (ibeq_t h27_) H
   refine cT h27_ rfl ?_
   refine c_seq rfl ?_
   refine r_ordb (l:=[0,1,2,3,4,5]) rfl (by kernel_rfl) ?_
   refine sM rfl ?_
   refine sM rfl ?_
   refine sV rfl (v_iaK (i:=0) rfl Tryz.underlying75 SZ79 rfl rfl rfl rfl n26_ (dec_t h19_)) ?_
   refine sV rfl (v_fax rfl Tryz.underlying79 rfl SZ41 rfl) ?_
   refine sV rfl (v_ldKf (v := .U ((rd_T79 l0 x7_).f1)) z79 [.U ((rd_T79 l0 x7_).f0),.U ((rd_T79 l0 x7_).f1)] 0 rfl Tryz.underlying41 rfl rfl rfl rfl n26_ (dec_t h19_) (fun w K h=>k79_open h) rfl) ?_
   refine sA rfl ?_
   refine sQ ?_
   refine c_ret rfl ?_
   refine q_block_ret ?_
   refine q_then_ret ?_
   refine q_then_ret ?_
   refine q_block_ret ?_
   refine q_then_ret ?_
   have e_:=Option.some.inj H
   subst e_
   exact q_ret (vs:=[.U ((rd_T79 l0 x7_).f1)]) rfl (.tmp rfl .nil) [] rfl (by decide) (hX)
  ·
   replace H:=ite_n (ibeq_f h27_) H
   refine cF h27_ rfl ?_
   refine c_skip rfl ?_
   refine q_block ?_
   refine q_seq ?_
   refine r_ordb (l:=[0,1,2]) rfl (by kernel_rfl) ?_
   refine sM rfl ?_
   refine sR rfl ?_
   refine sA rfl ?_
   refine s_end ?_
   exact q_again (k0_,IntKind.wrap .i64 (x7_+1)) [0] H (Nat.lt_succ_of_le hko_0) (subF_spec ⟨rfl,rfl,rfl,rfl,trivial⟩) rfl (by decide)
 ·
  replace H:=ite_n (dec_f h19_) H
  refine cF h19_ rfl ?_
  refine c_exit (i:=0) rfl rfl ?_
  refine q_then_exit ?_
  refine q_then_exit ?_
  refine q_block_here rfl ?_
  refine q_seq ?_
  refine c_seq rfl ?_
  refine r_ordb (l:=[0,1]) rfl (by kernel_rfl) ?_
  refine sM rfl ?_
  refine sA rfl ?_
  refine sQ ?_
  refine c_ret rfl ?_
  have e_:=Option.some.inj H
  subst e_
  exact q_ret (vs:=[.U a1]) rfl (.tmp rfl .nil) [] rfl (by decide) (hX)
mutual
def sr22_Cells.l3:Nat→Int→Int→Int→Int→Int→Int→Int→List S79→Int→Int→List Int→Option ((List Int) × Bool)
 | 0,_,_,_,_,_,_,_,_,_,_,_=>none
 | k+1,p0,p1,p2,p3,p4,p5,p6,xs108_,x267_,x365_,l364_=>(if (x365_:Int)<p3 then (sr22_at.f p0 p1 p2 p3 p4 p5 p6 l364_ x267_ (IntKind.wrap .i64 (6+x365_))).bind fun t395_=>(sr22_becomes.f k xs108_ t395_).bind fun t397_=>(sr22_with.f p0 p1 p2 p3 p4 p5 p6 l364_ x267_ (IntKind.wrap .i64 (6+x365_)) t397_).bind fun t399_=>sr22_Cells.l3 k p0 p1 p2 p3 p4 p5 p6 xs108_ x267_ (IntKind.wrap .i64 (x365_+1)) t399_ else sr22_Cells.l2 k p0 p1 p2 p3 p4 p5 p6 xs108_ (IntKind.wrap .i64 (x267_+1)) l364_)
def sr22_Cells.l2:Nat→Int→Int→Int→Int→Int→Int→Int→List S79→Int→List Int→Option ((List Int) × Bool)
 | 0,_,_,_,_,_,_,_,_,_,_=>none
 | k+1,p0,p1,p2,p3,p4,p5,p6,xs108_,x267_,l270_=>(if (x267_:Int)≤p2 then (sr22_at.f p0 p1 p2 p3 p4 p5 p6 l270_ x267_ 0).bind fun t342_=>(sr02_State.f t342_).bind fun t344_=>(if (t344_:Int)=1 then sr22_Cells.l3 k p0 p1 p2 p3 p4 p5 p6 xs108_ x267_ 0 l270_ else sr22_Cells.l2 k p0 p1 p2 p3 p4 p5 p6 xs108_ (IntKind.wrap .i64 (x267_+1)) l270_) else some (l270_,true))
def sr22_Cells.l1:Nat→Int→Int→Int→Int→Int→Int→Int→Int→List S79→List Int→Option ((List Int) × Bool)
 | 0,_,_,_,_,_,_,_,_,_,_=>none
 | k+1,p0,p1,p2,p3,p4,p5,p6,x110_,xs108_,l106_=>(if (x110_:Int)≤p2 then (sr22_lowest.f k p0 p1 p2 p3 p4 p5 p6 l106_ x110_).bind fun t170_=>((sr22_at.f p0 p1 p2 p3 p4 p5 p6 l106_ x110_ 0).bind fun t205_=>(sr02_State.f t205_).bind fun t207_=>(if (t207_:Int)=1 then some (t205_,t207_,(t207_:Int) == 1,true,decide ((t170_:Int) > 0)) else some (t205_,t207_,(t207_:Int) == 1,false,false)):Option (Int × Int × Bool × Bool × Bool)).bind fun (j179_,j180_,j181_,j182_,j183_)=>(if j183_=true then (sr22_moves.f k p0 p1 p2 p3 p4 p5 p6 l106_ x110_ t170_).bind fun (t193_,t194_,t195_)=>(if xs108_.length<8796093022208 then sr22_Cells.l1 k p0 p1 p2 p3 p4 p5 p6 (IntKind.wrap .i64 (x110_+1)) (xs108_ ++ [(⟨t194_,t195_⟩:S79)]) t193_ else none) else sr22_Cells.l1 k p0 p1 p2 p3 p4 p5 p6 (IntKind.wrap .i64 (x110_+1)) xs108_ l106_) else sr22_Cells.l2 k p0 p1 p2 p3 p4 p5 p6 xs108_ 0 l106_)
def sr22_Cells.l0:Nat→Int→Int→Int→Int→Int→Int→Int→List S47→Int→List Int→Option ((List Int) × Bool)
 | 0,_,_,_,_,_,_,_,_,_,_=>none
 | k+1,p0,p1,p2,p3,p4,p5,p6,l2,x39_,l38_=>(if (x39_:Int)<(l2.length:Int) then (if 0≤(x39_:Int) then (sr01_Index.f ((rd_T47 l2 x39_).f0)).bind fun t68_=>(sr22_frees.f p0 p1 p2 p3 p4 p5 p6 l38_ t68_).bind fun t70_=>sr22_Cells.l0 k p0 p1 p2 p3 p4 p5 p6 l2 (IntKind.wrap .i64 (x39_+1)) t70_ else none) else sr22_Cells.l1 k p0 p1 p2 p3 p4 p5 p6 1 ([]:List S79) l38_)
end
def sr22_Cells.f (k:Nat) (p0:Int) (p1:Int) (p2:Int) (p3:Int) (p4:Int) (p5:Int) (p6:Int) (l1:List Int) (l2:List S47):Option ((List Int) × Bool):=(sr21_Rest.f k p0 p1 p2 p3 p4 p5 p6 l1 l2).bind fun t10_=>(if t10_=true then (if ([]:List Int).length+l1.length<17592186044416 then sr22_Cells.l0 k p0 p1 p2 p3 p4 p5 p6 l2 0 (([]:List Int) ++ l1) else none) else some (([]:List Int),false))
set_option maxRecDepth 100000 in
set_option maxHeartbeats 4000000 in
theorem sr22_Cells_con (k:Nat) (p0:Int) (p1:Int) (p2:Int) (p3:Int) (p4:Int) (p5:Int) (p6:Int) (A1:Option Addr) (c1:Nat) (l1:List Int) (A2:Option Addr) (c2:Nat) (l2:List S47) (r0:List Int) (r1:Bool) (h:sr22_Cells.f k p0 p1 p2 p3 p4 p5 p6 l1 l2=some (r0,r1)) (w0:World) (Hs:List Nat):Con Tryz.prog 9 #[.agg (cfA p0 p1 p2 p3 p4 p5 p6),.slice A1 l1.length c1,.slice A2 l2.length c2] w0 Hs [.f (KU A1 c1 l1),.f (KC k47 A2 c2 l2)] (fun X=>∀ A_r0 c_r0,X (.tuple #[.slice A_r0 r0.length c_r0,.bool r1]) [.f (KU A_r0 c_r0 r0)]):=by
 refine con_enter (c:=bodyOf Tryz.f9) Tryz.func9 rfl (m:=106) rfl rfl rfl ?_
 intro X hX _
 have H:=h
 unfold sr22_Cells.f at H
 clear h
 refine c_seq rfl ?_
 refine r_ordb (l:=[0,1,2]) rfl (by kernel_rfl) ?_
 refine s_e rfl rfl (e_box rfl rfl rfl rfl) ?_
 intro b2_
 refine sA rfl ?_
 refine sA rfl ?_
 refine sE rfl ?_
 refine c_seq rfl ?_
 refine r_ordb (l:=[0,1,2,3,4]) rfl (by kernel_rfl) ?_
 refine sV rfl (vLA (lfA p0 p1 p2 p3 p4 p5 p6) 0 Tryz.underlying23 SZ23 rfl) ?_
 refine sM rfl ?_
 refine sM rfl ?_
 obtain ⟨t10_,e11_,H⟩:=bind_s H
 refine s_e rfl rfl (eC [1,2] #[.agg (cfA p0 p1 p2 p3 p4 p5 p6),.slice A1 l1.length c1,.slice A2 l2.length c2] Tryz.func11 (by decide) rfl (fun w ht=>sr21_Rest_con _ p0 p1 p2 p3 p4 p5 p6 A1 c1 l1 A2 c2 l2 t10_ e11_ w _)) ?_
 refine sV rfl (v_not rfl rfl) ?_
 refine sQ ?_
 rcases Bool.eq_false_or_eq_true (!t10_) with h12_ | h12_
 ·
  replace H:=ite_n (not_t (bnot_t h12_)) H
  refine cT h12_ rfl ?_
  refine c_seq rfl ?_
  refine r_ordb (l:=[0,1]) rfl (by kernel_rfl) ?_
  refine sA rfl ?_
  refine sA rfl ?_
  refine sQ ?_
  refine c_ret rfl ?_
  refine q_then_ret ?_
  refine q_know (KC_nil (Kd.int .u64)) ?_
  have hq_0:=Option.some.inj H
  obtain ⟨ee_0,hq_1⟩:=Prod.mk.inj hq_0
  subst ee_0
  subst hq_1
  exact q_ret (vs:=[.slice none 0 0,.bool false]) rfl (.tmp rfl (.tmp rfl .nil)) [0] rfl (by decide) (hX none 0)
 ·
  replace H:=ite_y (bnot_f h12_) H
  refine cF h12_ rfl ?_
  refine kQ rfl ?_
  refine c_seq rfl ?_
  refine r_ordb (l:=[0,1,2,3]) rfl (by kernel_rfl) ?_
  refine s_e rfl rfl (e_bslice0 rfl rfl rfl Tryz.underlying24 SZ41) ?_
  intro b20_
  refine sM rfl ?_
  obtain ⟨n21_,H⟩:=ite_no H
  refine s_e rfl rfl (e_appOK (flat_int .u64) (xs:=([]:List Int)) (ro:=(some (b20_,0,#[]))) (l:=l1) (z:=(.U 0)) (m:=1) (bytes:=8) (i:=2) (j:=0) rfl rfl rfl rfl rfl rfl Tryz.underlying24 (by kernel_rfl) rfl rfl rfl rfl orow_empty rfl rfl rfl (by first | omega | (simp only [List.length_nil,Nat.zero_add]; omega)) (by simp only [maxLen]; first | omega | (simp only [List.length_nil,Nat.zero_add]; omega))) ?_
  intro ro22_ hr23_ sm24_
  refine sA rfl ?_
  refine sE rfl ?_
  refine c_seq rfl ?_
  refine r_ordb (l:=[0]) rfl (by kernel_rfl) ?_
  refine sA rfl ?_
  refine sQ ?_
  refine c_block rfl ?_
  refine c_giveO (flat_int .u64) hr23_ [0,1,2,3] rfl (by decide) rfl ?_
  refine c_weak 0 rfl (fun w_ h_=>h_) ?_
  refine c_loop (σ:=Nat × Int × Option Addr × Nat × List Int) (fun (k,x39_,A36_,c37_,l38_)=>sr22_Cells.l0 k p0 p1 p2 p3 p4 p5 p6 l2 x39_ l38_=some (r0,r1)) (fun (k,x39_,A36_,c37_,l38_)=>k) (fun (k,x39_,A36_,c37_,l38_)=>[(2,.slice A2 l2.length c2),(3,.P b2_),(6,.slice none 0 0),(7,.bool false),(8,.slice A36_ l38_.length c37_),(9,.I x39_)]) (fun (k,x39_,A36_,c37_,l38_)=>[.f (KU (OA ro22_) (OC ro22_) (([]:List Int) ++ l1)),.b b2_ (.cells (cfA p0 p1 p2 p3 p4 p5 p6) 23 (0,0)),.f (KU A1 c1 l1),.f (KC k47 A2 c2 l2),.f (KU A36_ c37_ l38_)]) (k,0,(OA ro22_),(OC ro22_),(([]:List Int) ++ l1)) [1,2,3,4,0] rfl H (subF_spec ⟨rfl,rfl,rfl,rfl,rfl,rfl,trivial⟩) rfl (by decide) ?_
  rintro ⟨k0_,x39_,A36_,c37_,l38_⟩ hs52_
  clear H
  have H:sr22_Cells.l0 k0_ p0 p1 p2 p3 p4 p5 p6 l2 x39_ l38_=some (r0,r1):=hs52_
  try clear hs52_
  rcases k0_ with _ | k0_
  ·exact none_no (show none=_ from H)
  unfold sr22_Cells.l0 at H
  have hko_0:k0_≤k0_:=Nat.le_refl _
  refine c_seq rfl ?_
  refine c_seq rfl ?_
  refine r_ordb (l:=[0,1,2,3]) rfl (by kernel_rfl) ?_
  refine sM rfl ?_
  refine sM rfl ?_
  refine sV rfl (v_len rfl rfl rfl Tryz.underlying25 rfl rfl) ?_
  refine sR rfl ?_
  refine sQ ?_
  rcases Bool.eq_false_or_eq_true (decide ((x39_:Int)<(l2.length:Int))) with h56_ | h56_
  ·
   replace H:=ite_y (dec_t h56_) H
   refine cT h56_ rfl ?_
   refine kQ rfl ?_
   refine c_seq rfl ?_
   refine c_block rfl ?_
   obtain ⟨n67_,H⟩:=ite_no H
   obtain ⟨t68_,e69_,H⟩:=bind_s H
   obtain ⟨t70_,e71_,H⟩:=bind_s H
   refine r_any [.f (KU (OA ro22_) (OC ro22_) (([]:List Int) ++ l1)),.b b2_ (.cells (cfA p0 p1 p2 p3 p4 p5 p6) 23 (0,0)),.f (KU A1 c1 l1),.f (KC k47 A2 c2 l2),.f (KU A36_ c37_ l38_)] (by kernel_rfl) rfl (by kernel_rfl) (mem_pick (idx:=[0,1,2,3,4]) rfl) ?_
   refine aV 0 rfl (by kernel_rfl) (vLA (lfA p0 p1 p2 p3 p4 p5 p6) 1 Tryz.underlying23 SZ23 rfl) ?_
   refine aV 1 rfl (by kernel_rfl) (vM rfl) ?_
   refine aV 2 rfl (by kernel_rfl) (vM rfl) ?_
   refine aV 3 rfl (by kernel_rfl) (vM rfl) ?_
   refine aV 4 rfl (by kernel_rfl) (v_iaK (i:=3) rfl Tryz.underlying25 SZ47 rfl rfl rfl rfl n67_ (dec_t h56_)) ?_
   refine aV 5 rfl (by kernel_rfl) (v_fax rfl Tryz.underlying47 rfl SZ41 rfl) ?_
   refine aV 6 rfl (by kernel_rfl) (v_ldKf (v := .U ((rd_T47 l2 x39_).f0)) z47 [.U ((rd_T47 l2 x39_).f0),.U ((rd_T47 l2 x39_).f1),.U ((rd_T47 l2 x39_).f2)] 3 rfl Tryz.underlying41 rfl rfl rfl rfl n67_ (dec_t h56_) (fun w K h=>k47_open h) rfl) ?_
   refine a_1 (i:=7) (by kernel_rfl) ?_
   refine i_e rfl rfl (eC [] #[.U ((rd_T47 l2 x39_).f0)] Tryz.func17 (by decide) rfl (fun w ht=>sr01_Index_con ((rd_T47 l2 x39_).f0) t68_ e69_ w _)) ?_
   refine ⟨(mem_pick (idx:=[0,1,2,3,4]) rfl),?_⟩
   refine a_1 (i:=8) (by kernel_rfl) ?_
   refine i_e rfl rfl (eC [4] #[.agg (cfA p0 p1 p2 p3 p4 p5 p6),.slice A36_ l38_.length c37_,.I t68_] Tryz.func36 (by decide) rfl (fun w ht=>sr22_frees_con p0 p1 p2 p3 p4 p5 p6 A36_ c37_ l38_ t68_ t70_ e71_ w _)) ?_
   intro A74_ c75_
   refine ⟨(mem_pick (idx:=[1,2,3,4,5]) rfl),?_⟩
   refine aV 9 rfl (by kernel_rfl) (vA rfl) ?_
   refine a_end (by kernel_rfl) ?_
   refine q_block ?_
   refine q_seq ?_
   refine r_ordb (l:=[0,1,2]) rfl (by kernel_rfl) ?_
   refine sM rfl ?_
   refine sR rfl ?_
   refine sA rfl ?_
   refine s_end ?_
   exact q_again (k0_,IntKind.wrap .i64 (x39_+1),A74_,c75_,t70_) [1,2,3,4,0] H (Nat.lt_succ_of_le hko_0) (subF_spec ⟨rfl,rfl,rfl,rfl,rfl,rfl,trivial⟩) rfl (by decide)
  ·
   replace H:=ite_n (dec_f h56_) H
   refine cF h56_ rfl ?_
   refine c_exit (i:=0) rfl rfl ?_
   refine q_then_exit ?_
   refine q_then_exit ?_
   refine q_block_here rfl ?_
   refine q_seq ?_
   refine c_seq rfl ?_
   refine r_ordb (l:=[0]) rfl (by kernel_rfl) ?_
   refine sA rfl ?_
   refine sE rfl ?_
   refine c_seq rfl ?_
   refine r_ordb (l:=[0]) rfl (by kernel_rfl) ?_
   refine sA rfl ?_
   refine sQ ?_
   refine c_block rfl ?_
   refine c_knowT (φ:=fun _=>True) (fun _=>trivial) ?_
   refine c_weak 5 rfl (fun w_ h_=>h_) ?_
   refine c_loop (σ:=Nat × Int × Ro × List S79 × Option Addr × Nat × List Int) (fun (k,x110_,ro107_,xs108_,A104_,c105_,l106_)=>sr22_Cells.l1 k p0 p1 p2 p3 p4 p5 p6 x110_ xs108_ l106_=some (r0,r1)∧ORow 2 enc79 ro107_ xs108_) (fun (k,x110_,ro107_,xs108_,A104_,c105_,l106_)=>k) (fun (k,x110_,ro107_,xs108_,A104_,c105_,l106_)=>[(3,.P b2_),(6,.slice none 0 0),(7,.bool false),(8,.slice A104_ l106_.length c105_),(10,.slice (OA ro107_) xs108_.length (OC ro107_)),(11,.I x110_)]) (fun (k,x110_,ro107_,xs108_,A104_,c105_,l106_)=>[.f (KU (OA ro22_) (OC ro22_) (([]:List Int) ++ l1)),.b b2_ (.cells (cfA p0 p1 p2 p3 p4 p5 p6) 23 (0,0)),.f (KU A1 c1 l1),.f (KC k47 A2 c2 l2),.f (KU A36_ c37_ l38_),OE 79 ro107_,.f (KU A104_ c105_ l106_)]) (k0_,1,none,([]:List S79),A36_,c37_,l38_) [2,3,4,5,6,1,0] rfl ⟨H,ORow.nil⟩ (subF_spec ⟨rfl,rfl,rfl,rfl,rfl,rfl,trivial⟩) rfl (by decide) ?_
   rintro ⟨k1_,x110_,ro107_,xs108_,A104_,c105_,l106_⟩ hs138_
   clear H
   obtain ⟨H,hr109_⟩:sr22_Cells.l1 k1_ p0 p1 p2 p3 p4 p5 p6 x110_ xs108_ l106_=some (r0,r1)∧ORow 2 enc79 ro107_ xs108_:=hs138_
   try clear hs138_
   rcases k1_ with _ | k1_
   ·exact none_no (show none=_ from H)
   unfold sr22_Cells.l1 at H
   have hko_1:k1_≤k1_:=Nat.le_refl _
   refine c_seq rfl ?_
   refine c_seq rfl ?_
   refine r_ordb (l:=[0,1,2,3]) rfl (by kernel_rfl) ?_
   refine sM rfl ?_
   refine sV rfl (vF Tryz.underlying23 SZ3 rfl) ?_
   refine sV rfl (vL 1 Tryz.underlying3 rfl) ?_
   refine sR rfl ?_
   refine sQ ?_
   rcases Bool.eq_false_or_eq_true (decide ((x110_:Int)≤p2)) with h142_ | h142_
   ·
    replace H:=ite_y (dec_t h142_) H
    refine cT h142_ rfl ?_
    refine kQ rfl ?_
    refine c_seq rfl ?_
    refine c_block rfl ?_
    refine c_seq rfl ?_
    refine r_ordb (l:=[0,1,2,3,4]) rfl (by kernel_rfl) ?_
    refine sV rfl (vLA (lfA p0 p1 p2 p3 p4 p5 p6) 1 Tryz.underlying23 SZ23 rfl) ?_
    refine sM rfl ?_
    refine sM rfl ?_
    obtain ⟨t170_,e171_,H⟩:=bind_s H
    refine s_e rfl rfl (eC [6] #[.agg (cfA p0 p1 p2 p3 p4 p5 p6),.slice A104_ l106_.length c105_,.I x110_] Tryz.func37 (by decide) rfl (fun w ht=>sr22_lowest_con _ p0 p1 p2 p3 p4 p5 p6 A104_ c105_ l106_ x110_ t170_ e171_ w _)) ?_
    refine sA rfl ?_
    refine sQ ?_
    obtain ⟨⟨j179_,j180_,j181_,j182_,j183_⟩,e184_,H⟩:=bind_s H
    refine c_join (β:=Unit) (fun _=>True) (fun _=>[(3,.P b2_),(6,.slice none 0 0),(7,.bool false),(8,.slice A104_ l106_.length c105_),(10,.slice (OA ro107_) xs108_.length (OC ro107_)),(11,.I x110_),(40,.I x110_),(41,.pointer (some ⟨b2_,2,none⟩)),(42,.I p2),(43,.bool (decide ((x110_:Int)≤p2))),(46,.agg (cfA p0 p1 p2 p3 p4 p5 p6)),(47,.slice A104_ l106_.length c105_),(48,.I x110_),(49,.I t170_),(12,.I t170_),(50,.agg (cfA p0 p1 p2 p3 p4 p5 p6)),(51,.slice A104_ l106_.length c105_),(52,.I x110_),(53,.U j179_),(54,.I j180_),(55,.bool j181_),(56,.bool j182_),(59,.bool j183_)]) (fun _=>[.f (KU (OA ro22_) (OC ro22_) (([]:List Int) ++ l1)),.b b2_ (.cells (cfA p0 p1 p2 p3 p4 p5 p6) 23 (0,0)),.f (KU A1 c1 l1),.f (KC k47 A2 c2 l2),.f (KU A36_ c37_ l38_),OE 79 ro107_,.f (KU A104_ c105_ l106_)]) rfl (fun _ _=>?_) (fun J_=>?_)
    ·
     rcases Bool.eq_false_or_eq_true j183_ with h185_ | h185_
     ·
      subst h185_
      replace H:=ite_y rfl H
      refine c_cond1 rfl rfl ?_
      refine c_seq rfl ?_
      refine r_ordb (l:=[0,1,2,3,4,5,6,7,8,9,10]) rfl (by kernel_rfl) ?_
      refine sV rfl (vLA (lfA p0 p1 p2 p3 p4 p5 p6) 1 Tryz.underlying23 SZ23 rfl) ?_
      refine sM rfl ?_
      refine sM rfl ?_
      refine sM rfl ?_
      obtain ⟨⟨t193_,t194_,t195_⟩,e196_,H⟩:=bind_s H
      refine s_e rfl rfl (eC [6] #[.agg (cfA p0 p1 p2 p3 p4 p5 p6),.slice A104_ l106_.length c105_,.I x110_,.I t170_] Tryz.func39 (by decide) rfl (fun w ht=>sr22_moves_con _ p0 p1 p2 p3 p4 p5 p6 A104_ c105_ l106_ x110_ t170_ t193_ t194_ t195_ e196_ w _)) ?_
      intro A197_ c198_
      refine sM rfl ?_
      refine sV rfl (v_ext rfl rfl rfl) ?_
      refine sV rfl (v_ext rfl rfl rfl) ?_
      refine s_e rfl rfl (e_alloc rfl rfl rfl ZR79) ?_
      intro b199_
      refine sA rfl ?_
      refine s_e rfl rfl (e_stA 0 rfl rfl SZ79 rfl rfl rfl rfl rfl rfl) ?_
      refine sE rfl ?_
      refine r_ordb (l:=[0,1]) rfl (by kernel_rfl) ?_
      refine sM rfl ?_
      refine sA rfl ?_
      refine sQ ?_
      refine r_ordb (l:=[0,1,2,3,4]) rfl (by kernel_rfl) ?_
      refine sM rfl ?_
      refine sV rfl (vLA [.U t194_,.U t195_] 0 Tryz.underlying79 SZ79 rfl) ?_
      refine s_e rfl rfl (e_bslice #[.U t194_,.U t195_] (.agg #[.U 0,.U 0]) rfl rfl rfl Tryz.underlying75 SZ79 ZR79 (by decide) rfl (by kernel_rfl)) ?_
      intro b200_
      obtain ⟨n201_,H⟩:=ite_no H
      refine s_e rfl rfl (e_appO (enc:=enc79) (v:=(⟨t194_,t195_⟩:S79)) (xs:=xs108_) (ro:=ro107_) (z:=(.agg #[.U 0,.U 0])) (m:=2) (bytes:=16) (i:=0) (j:=8) rfl rfl rfl rfl rfl rfl Tryz.underlying75 (by kernel_rfl) rfl (by decide) rfl rfl hr109_ rfl rfl rfl rfl (flat79.one _) (by omega) (by simp only [maxLen]; omega)) ?_
      intro ro202_ hr203_ sm204_
      refine sA rfl ?_
      refine s_end ?_
      refine q_block ?_
      refine q_seq ?_
      refine r_ordb (l:=[0,1,2]) rfl (by kernel_rfl) ?_
      refine sM rfl ?_
      refine sR rfl ?_
      refine sA rfl ?_
      refine s_end ?_
      exact q_again (k1_,IntKind.wrap .i64 (x110_+1),ro202_,(xs108_ ++ [(⟨t194_,t195_⟩:S79)]),A197_,c198_,t193_) [3,4,5,6,7,8,2] ⟨H,hr203_⟩ (Nat.lt_succ_of_le hko_1) (subF_spec ⟨rfl,rfl,rfl,rfl,rfl,rfl,trivial⟩) rfl (by decide)
     ·
      subst h185_
      replace H:=ite_n (by decide) H
      refine c_cond0 rfl rfl ?_
      refine c_skip rfl ?_
      refine q_block ?_
      refine q_seq ?_
      refine r_ordb (l:=[0,1,2]) rfl (by kernel_rfl) ?_
      refine sM rfl ?_
      refine sR rfl ?_
      refine sA rfl ?_
      refine s_end ?_
      exact q_again (k1_,IntKind.wrap .i64 (x110_+1),ro107_,xs108_,A104_,c105_,l106_) [0,1,2,3,4,5,6] ⟨H,hr109_⟩ (Nat.lt_succ_of_le hko_1) (subF_spec ⟨rfl,rfl,rfl,rfl,rfl,rfl,trivial⟩) rfl (by decide)
    ·
     clear H
     have H:=e184_
     clear e184_
     refine r_ordb (l:=[0,1,2,3,4,5,6,7,8,9]) rfl (by kernel_rfl) ?_
     refine sV rfl (vLA (lfA p0 p1 p2 p3 p4 p5 p6) 1 Tryz.underlying23 SZ23 rfl) ?_
     refine sM rfl ?_
     refine sM rfl ?_
     obtain ⟨t205_,e206_,H⟩:=bind_s H
     refine s_e rfl rfl (eC [6] #[.agg (cfA p0 p1 p2 p3 p4 p5 p6),.slice A104_ l106_.length c105_,.I x110_,.I 0] Tryz.func38 (by decide) rfl (fun w ht=>sr22_at_con p0 p1 p2 p3 p4 p5 p6 A104_ c105_ l106_ x110_ 0 t205_ e206_ w _)) ?_
     obtain ⟨t207_,e208_,H⟩:=bind_s H
     refine s_e rfl rfl (eC [] #[.U t205_] Tryz.func14 (by decide) rfl (fun w ht=>sr02_State_con t205_ t207_ e208_ w _)) ?_
     refine sR rfl ?_
     refine sM rfl ?_
     rcases Bool.eq_false_or_eq_true ((t207_:Int) == 1) with h209_ | h209_
     ·
      replace H:=ite_y (ibeq_t h209_) H
      refine s_splitv (d:=56) (t:=(t207_:Int) == 1) rfl (fun _=>?_) (fun h210_=>absurd (h210_.symm.trans h209_) (by decide))
      refine sG rfl (vM rfl) ?_
      refine sG rfl (vR rfl) ?_
      refine sP rfl ?_
      refine s_end ?_
      have hq_0:=Option.some.inj H
      obtain ⟨ee_0,hq_1⟩:=Prod.mk.inj hq_0
      obtain ⟨ee_1,hq_2⟩:=Prod.mk.inj hq_1
      obtain ⟨ee_2,hq_3⟩:=Prod.mk.inj hq_2
      obtain ⟨ee_3,hq_4⟩:=Prod.mk.inj hq_3
      subst ee_0
      subst ee_1
      subst ee_2
      subst ee_3
      subst hq_4
      exact q_seq (c_frame (subF_spec (by exact ⟨rfl,rfl,rfl,rfl,rfl,rfl,rfl,rfl,rfl,rfl,rfl,rfl,rfl,rfl,rfl,rfl,rfl,rfl,rfl,rfl,rfl,rfl,rfl,trivial⟩)) (c_take [0,1,2,3,4,5,6] rfl (by decide) (J_ () trivial)))
     ·
      replace H:=ite_n (ibeq_f h209_) H
      refine s_splitv (d:=56) (t:=(t207_:Int) == 1) rfl (fun h211_=>absurd (h211_.symm.trans h209_) (by decide)) (fun _=>?_)
      refine sN rfl ?_
      refine sN rfl ?_
      refine sP rfl ?_
      refine s_end ?_
      have hq_0:=Option.some.inj H
      obtain ⟨ee_0,hq_1⟩:=Prod.mk.inj hq_0
      obtain ⟨ee_1,hq_2⟩:=Prod.mk.inj hq_1
      obtain ⟨ee_2,hq_3⟩:=Prod.mk.inj hq_2
      obtain ⟨ee_3,hq_4⟩:=Prod.mk.inj hq_3
      subst ee_0
      subst ee_1
      subst ee_2
      subst ee_3
      subst hq_4
      exact q_seq (c_frame (subF_spec (by exact ⟨rfl,rfl,rfl,rfl,rfl,rfl,rfl,rfl,rfl,rfl,rfl,rfl,rfl,rfl,rfl,rfl,rfl,rfl,rfl,rfl,rfl,rfl,rfl,trivial⟩)) (c_take [0,1,2,3,4,5,6] rfl (by decide) (J_ () trivial)))
   ·
    replace H:=ite_n (dec_f h142_) H
    refine cF h142_ rfl ?_
    refine c_exit (i:=2) rfl rfl ?_
    refine q_then_exit ?_
    refine q_then_exit ?_
    refine q_block_here rfl ?_
    refine q_seq ?_
    refine c_seq rfl ?_
    refine c_seq rfl ?_
    refine r_ordb (l:=[0]) rfl (by kernel_rfl) ?_
    refine sA rfl ?_
    refine sQ ?_
    refine c_block rfl ?_
    refine c_giveO flat79 hr109_ [5,0,1,2,3,4,6] rfl (by decide) rfl ?_
    refine c_weak 6 rfl (fun w_ h_=>h_) ?_
    refine c_loop (σ:=Nat × Int × Option Addr × Nat × List Int) (fun (k,x267_,A268_,c269_,l270_)=>sr22_Cells.l2 k p0 p1 p2 p3 p4 p5 p6 xs108_ x267_ l270_=some (r0,r1)) (fun (k,x267_,A268_,c269_,l270_)=>k) (fun (k,x267_,A268_,c269_,l270_)=>[(3,.P b2_),(6,.slice none 0 0),(7,.bool false),(8,.slice A268_ l270_.length c269_),(10,.slice (OA ro107_) xs108_.length (OC ro107_)),(15,.I x267_)]) (fun (k,x267_,A268_,c269_,l270_)=>[.f (KC k79 (OA ro107_) (OC ro107_) xs108_),.f (KU (OA ro22_) (OC ro22_) (([]:List Int) ++ l1)),.b b2_ (.cells (cfA p0 p1 p2 p3 p4 p5 p6) 23 (0,0)),.f (KU A1 c1 l1),.f (KC k47 A2 c2 l2),.f (KU A36_ c37_ l38_),.f (KU A104_ c105_ l106_),.f (KU A268_ c269_ l270_)]) (k1_,0,A104_,c105_,l106_) [1,2,3,4,5,6,7,0] rfl H (subF_spec ⟨rfl,rfl,rfl,rfl,rfl,rfl,trivial⟩) rfl (by decide) ?_
    rintro ⟨k2_,x267_,A268_,c269_,l270_⟩ hs325_
    clear H
    have H:sr22_Cells.l2 k2_ p0 p1 p2 p3 p4 p5 p6 xs108_ x267_ l270_=some (r0,r1):=hs325_
    try clear hs325_
    rcases k2_ with _ | k2_
    ·exact none_no (show none=_ from H)
    unfold sr22_Cells.l2 at H
    have hko_2:k2_≤k2_:=Nat.le_refl _
    refine c_seq rfl ?_
    refine c_seq rfl ?_
    refine r_ordb (l:=[0,1,2,3]) rfl (by kernel_rfl) ?_
    refine sM rfl ?_
    refine sV rfl (vF Tryz.underlying23 SZ3 rfl) ?_
    refine sV rfl (vL 2 Tryz.underlying3 rfl) ?_
    refine sR rfl ?_
    refine sQ ?_
    rcases Bool.eq_false_or_eq_true (decide ((x267_:Int)≤p2)) with h329_ | h329_
    ·
     replace H:=ite_y (dec_t h329_) H
     refine cT h329_ rfl ?_
     refine kQ rfl ?_
     refine c_seq rfl ?_
     refine c_block rfl ?_
     refine c_seq rfl ?_
     refine c_seq rfl ?_
     refine r_ordb (l:=[0,1,2,3,4,5]) rfl (by kernel_rfl) ?_
     refine sV rfl (vLA (lfA p0 p1 p2 p3 p4 p5 p6) 2 Tryz.underlying23 SZ23 rfl) ?_
     refine sM rfl ?_
     refine sM rfl ?_
     obtain ⟨t342_,e343_,H⟩:=bind_s H
     refine s_e rfl rfl (eC [7] #[.agg (cfA p0 p1 p2 p3 p4 p5 p6),.slice A268_ l270_.length c269_,.I x267_,.I 0] Tryz.func38 (by decide) rfl (fun w ht=>sr22_at_con p0 p1 p2 p3 p4 p5 p6 A268_ c269_ l270_ x267_ 0 t342_ e343_ w _)) ?_
     obtain ⟨t344_,e345_,H⟩:=bind_s H
     refine s_e rfl rfl (eC [] #[.U t342_] Tryz.func14 (by decide) rfl (fun w ht=>sr02_State_con t342_ t344_ e345_ w _)) ?_
     refine sR rfl ?_
     refine sQ ?_
     rcases Bool.eq_false_or_eq_true ((t344_:Int) != 1) with h346_ | h346_
     ·
      replace H:=ite_n (ibne_t h346_) H
      refine cT h346_ rfl ?_
      refine c_exit (i:=5) rfl rfl ?_
      refine q_then_exit ?_
      refine q_block_here rfl ?_
      refine q_seq ?_
      refine r_ordb (l:=[0,1,2]) rfl (by kernel_rfl) ?_
      refine sM rfl ?_
      refine sR rfl ?_
      refine sA rfl ?_
      refine s_end ?_
      exact q_again (k2_,IntKind.wrap .i64 (x267_+1),A268_,c269_,l270_) [0,1,2,3,4,5,6,7] H (Nat.lt_succ_of_le hko_2) (subF_spec ⟨rfl,rfl,rfl,rfl,rfl,rfl,trivial⟩) rfl (by decide)
     ·
      replace H:=ite_y (ibne_f h346_) H
      refine cF h346_ rfl ?_
      refine kQ rfl ?_
      refine c_seq rfl ?_
      refine r_ordb (l:=[0]) rfl (by kernel_rfl) ?_
      refine sA rfl ?_
      refine sQ ?_
      refine c_block rfl ?_
      refine c_weak 7 rfl (fun w_ h_=>h_) ?_
      refine c_loop (σ:=Nat × Int × Option Addr × Nat × List Int) (fun (k,x365_,A362_,c363_,l364_)=>sr22_Cells.l3 k p0 p1 p2 p3 p4 p5 p6 xs108_ x267_ x365_ l364_=some (r0,r1)∧k≤k2_) (fun (k,x365_,A362_,c363_,l364_)=>k) (fun (k,x365_,A362_,c363_,l364_)=>[(3,.P b2_),(6,.slice none 0 0),(7,.bool false),(8,.slice A362_ l364_.length c363_),(10,.slice (OA ro107_) xs108_.length (OC ro107_)),(15,.I x267_),(73,.I x267_),(74,.pointer (some ⟨b2_,2,none⟩)),(75,.I p2),(76,.bool (decide ((x267_:Int)≤p2))),(79,.agg (cfA p0 p1 p2 p3 p4 p5 p6)),(80,.slice A268_ l270_.length c269_),(81,.I x267_),(82,.U t342_),(83,.I t344_),(84,.bool ((t344_:Int) != 1)),(16,.I x365_)]) (fun (k,x365_,A362_,c363_,l364_)=>[.f (KC k79 (OA ro107_) (OC ro107_) xs108_),.f (KU (OA ro22_) (OC ro22_) (([]:List Int) ++ l1)),.b b2_ (.cells (cfA p0 p1 p2 p3 p4 p5 p6) 23 (0,0)),.f (KU A1 c1 l1),.f (KC k47 A2 c2 l2),.f (KU A36_ c37_ l38_),.f (KU A104_ c105_ l106_),.f (KU A268_ c269_ l270_),.f (KU A362_ c363_ l364_)]) (k2_,0,A268_,c269_,l270_) [1,2,3,4,5,6,7,8,0] rfl ⟨H,hko_2⟩ (subF_spec ⟨rfl,rfl,rfl,rfl,rfl,rfl,rfl,rfl,rfl,rfl,rfl,rfl,rfl,rfl,rfl,rfl,rfl,trivial⟩) rfl (by decide) ?_
      rintro ⟨k3_,x365_,A362_,c363_,l364_⟩ hs379_
      clear H
      obtain ⟨H,hko_2⟩:sr22_Cells.l3 k3_ p0 p1 p2 p3 p4 p5 p6 xs108_ x267_ x365_ l364_=some (r0,r1)∧k3_≤k2_:=hs379_
      try clear hs379_
      rcases k3_ with _ | k3_
      ·exact none_no (show none=_ from H)
      unfold sr22_Cells.l3 at H
      replace hko_2:=Nat.le_of_succ_le hko_2
      have hko_3:k3_≤k3_:=Nat.le_refl _
      refine c_seq rfl ?_
      refine c_seq rfl ?_
      refine r_ordb (l:=[0,1,2,3]) rfl (by kernel_rfl) ?_
      refine sM rfl ?_
      refine sV rfl (vF Tryz.underlying23 SZ3 rfl) ?_
      refine sV rfl (vL 2 Tryz.underlying3 rfl) ?_
      refine sR rfl ?_
      refine sQ ?_
      rcases Bool.eq_false_or_eq_true (decide ((x365_:Int)<p3)) with h383_ | h383_
      ·
       replace H:=ite_y (dec_t h383_) H
       refine cT h383_ rfl ?_
       refine kQ rfl ?_
       refine c_seq rfl ?_
       refine c_block rfl ?_
       obtain ⟨t395_,e396_,H⟩:=bind_s H
       obtain ⟨t397_,e398_,H⟩:=bind_s H
       obtain ⟨t399_,e400_,H⟩:=bind_s H
       refine r_any [.f (KC k79 (OA ro107_) (OC ro107_) xs108_),.f (KU (OA ro22_) (OC ro22_) (([]:List Int) ++ l1)),.b b2_ (.cells (cfA p0 p1 p2 p3 p4 p5 p6) 23 (0,0)),.f (KU A1 c1 l1),.f (KC k47 A2 c2 l2),.f (KU A36_ c37_ l38_),.f (KU A104_ c105_ l106_),.f (KU A268_ c269_ l270_),.f (KU A362_ c363_ l364_)] (by kernel_rfl) rfl (by kernel_rfl) (mem_pick (idx:=[0,1,2,3,4,5,6,7,8]) rfl) ?_
       refine aV 0 rfl (by kernel_rfl) (vLA (lfA p0 p1 p2 p3 p4 p5 p6) 2 Tryz.underlying23 SZ23 rfl) ?_
       refine aV 1 rfl (by kernel_rfl) (vM rfl) ?_
       refine aV 2 rfl (by kernel_rfl) (vM rfl) ?_
       refine aV 3 rfl (by kernel_rfl) (vM rfl) ?_
       refine aV 4 rfl (by kernel_rfl) (vR rfl) ?_
       refine aV 5 rfl (by kernel_rfl) (vM rfl) ?_
       refine aV 6 rfl (by kernel_rfl) (vLA (lfA p0 p1 p2 p3 p4 p5 p6) 2 Tryz.underlying23 SZ23 rfl) ?_
       refine aV 7 rfl (by kernel_rfl) (vM rfl) ?_
       refine aV 8 rfl (by kernel_rfl) (vM rfl) ?_
       refine aV 9 rfl (by kernel_rfl) (vM rfl) ?_
       refine aV 10 rfl (by kernel_rfl) (vR rfl) ?_
       refine a_1 (i:=11) (by kernel_rfl) ?_
       refine i_e rfl rfl (eC [8] #[.agg (cfA p0 p1 p2 p3 p4 p5 p6),.slice A362_ l364_.length c363_,.I x267_,.I (IntKind.wrap .i64 (6+x365_))] Tryz.func38 (by decide) rfl (fun w ht=>sr22_at_con p0 p1 p2 p3 p4 p5 p6 A362_ c363_ l364_ x267_ (IntKind.wrap .i64 (6+x365_)) t395_ e396_ w _)) ?_
       refine ⟨(mem_pick (idx:=[0,1,2,3,4,5,6,7,8]) rfl),?_⟩
       refine a_1 (i:=12) (by kernel_rfl) ?_
       refine i_e rfl rfl (eC [0] #[.slice (OA ro107_) xs108_.length (OC ro107_),.U t395_] Tryz.func41 (by decide) rfl (fun w ht=>sr22_becomes_con _ (OA ro107_) (OC ro107_) xs108_ t395_ t397_ e398_ w _)) ?_
       refine ⟨(mem_pick (idx:=[0,1,2,3,4,5,6,7,8]) rfl),?_⟩
       refine a_1 (i:=13) (by kernel_rfl) ?_
       refine i_e rfl rfl (eC [8] #[.agg (cfA p0 p1 p2 p3 p4 p5 p6),.slice A362_ l364_.length c363_,.I x267_,.I (IntKind.wrap .i64 (6+x365_)),.U t397_] Tryz.func40 (by decide) rfl (fun w ht=>sr22_with_con p0 p1 p2 p3 p4 p5 p6 A362_ c363_ l364_ x267_ (IntKind.wrap .i64 (6+x365_)) t397_ t399_ e400_ w _)) ?_
       intro A403_ c404_
       refine ⟨(mem_pick (idx:=[1,2,3,4,5,6,7,8,9]) rfl),?_⟩
       refine aV 14 rfl (by kernel_rfl) (vA rfl) ?_
       refine a_end (by kernel_rfl) ?_
       refine q_block ?_
       refine q_seq ?_
       refine r_ordb (l:=[0,1,2]) rfl (by kernel_rfl) ?_
       refine sM rfl ?_
       refine sR rfl ?_
       refine sA rfl ?_
       refine s_end ?_
       exact q_again (k3_,IntKind.wrap .i64 (x365_+1),A403_,c404_,t399_) [1,2,3,4,5,6,7,8,0] ⟨H,hko_2⟩ (Nat.lt_succ_of_le hko_3) (subF_spec ⟨rfl,rfl,rfl,rfl,rfl,rfl,rfl,rfl,rfl,rfl,rfl,rfl,rfl,rfl,rfl,rfl,rfl,trivial⟩) rfl (by decide)
      ·
       replace H:=ite_n (dec_f h383_) H
       refine cF h383_ rfl ?_
       refine c_exit (i:=6) rfl rfl ?_
       refine q_then_exit ?_
       refine q_then_exit ?_
       refine q_block_here rfl ?_
       refine q_block ?_
       refine q_seq ?_
       refine r_ordb (l:=[0,1,2]) rfl (by kernel_rfl) ?_
       refine sM rfl ?_
       refine sR rfl ?_
       refine sA rfl ?_
       refine s_end ?_
       exact q_again (k3_,IntKind.wrap .i64 (x267_+1),A362_,c363_,l364_) [0,1,2,3,4,5,6,8] H (Nat.lt_succ_of_le hko_2) (subF_spec ⟨rfl,rfl,rfl,rfl,rfl,rfl,trivial⟩) rfl (by decide)
    ·
     replace H:=ite_n (dec_f h329_) H
     refine cF h329_ rfl ?_
     refine c_exit (i:=4) rfl rfl ?_
     refine q_then_exit ?_
     refine q_then_exit ?_
     refine q_block_here rfl ?_
     refine q_seq ?_
     refine c_seq rfl ?_
     refine r_ordb (l:=[0,1,2]) rfl (by kernel_rfl) ?_
     refine sM rfl ?_
     refine sA rfl ?_
     refine sA rfl ?_
     refine sQ ?_
     refine c_ret rfl ?_
     have hq_0:=Option.some.inj H
     obtain ⟨ee_0,hq_1⟩:=Prod.mk.inj hq_0
     subst ee_0
     subst hq_1
     exact q_ret (vs:=[.slice A268_ l270_.length c269_,.bool true]) rfl (.tmp rfl (.tmp rfl .nil)) [7] rfl (by decide) (hX A268_ c269_)
def sr03_Same.l0:Nat→List Int→List Int→Int→Option Bool
 | 0,_,_,_=>none
 | k+1,l0,l1,x14_=>(if (x14_:Int)<(l0.length:Int) then (if 0≤(x14_:Int) then (if (x14_:Int)<(l1.length:Int) then (if (rd l0 x14_:Int)=(rd l1 x14_) then sr03_Same.l0 k l0 l1 (IntKind.wrap .i64 (x14_+1)) else some false) else none) else none) else some true)
def sr03_Same.f (k:Nat) (l0:List Int) (l1:List Int):Option Bool:=(if ((l0.length:Int):Int)=(l1.length:Int) then sr03_Same.l0 k l0 l1 0 else some false)
set_option maxRecDepth 100000 in
set_option maxHeartbeats 4000000 in
theorem sr03_Same_con (k:Nat) (A0:Option Addr) (c0:Nat) (l0:List Int) (A1:Option Addr) (c1:Nat) (l1:List Int) (r0:Bool) (h:sr03_Same.f k l0 l1=some r0) (w0:World) (Hs:List Nat):Con Tryz.prog 10 #[.slice A0 l0.length c0,.slice A1 l1.length c1] w0 Hs [.f (KU A0 c0 l0),.f (KU A1 c1 l1)] (fun X=>X (.bool r0) []):=by
 refine con_enter (c:=bodyOf Tryz.f10) Tryz.func10 rfl (m:=26) rfl rfl rfl ?_
 intro X hX _
 have H:=h
 unfold sr03_Same.f at H
 clear h
 refine c_seq rfl ?_
 refine r_ordb (l:=[0]) rfl (by kernel_rfl) ?_
 refine sA rfl ?_
 refine sE rfl ?_
 refine c_seq rfl ?_
 refine r_ordb (l:=[0,1,2,3,4]) rfl (by kernel_rfl) ?_
 refine sM rfl ?_
 refine sV rfl (v_len rfl rfl rfl Tryz.underlying24 rfl rfl) ?_
 refine sM rfl ?_
 refine sV rfl (v_len rfl rfl rfl Tryz.underlying24 rfl rfl) ?_
 refine sR rfl ?_
 refine sQ ?_
 rcases Bool.eq_false_or_eq_true (((l0.length:Int):Int) != (l1.length:Int)) with h4_ | h4_
 ·
  replace H:=ite_n (ibne_t h4_) H
  refine cT h4_ rfl ?_
  refine c_seq rfl ?_
  refine r_ordb (l:=[0]) rfl (by kernel_rfl) ?_
  refine sA rfl ?_
  refine sQ ?_
  refine c_ret rfl ?_
  refine q_then_ret ?_
  have e_:=Option.some.inj H
  subst e_
  exact q_ret (vs:=[.bool false]) rfl (.tmp rfl .nil) [] rfl (by decide) (hX)
 ·
  replace H:=ite_y (ibne_f h4_) H
  refine cF h4_ rfl ?_
  refine kQ rfl ?_
  refine c_seq rfl ?_
  refine c_seq rfl ?_
  refine r_ordb (l:=[0]) rfl (by kernel_rfl) ?_
  refine sA rfl ?_
  refine sQ ?_
  refine c_block rfl ?_
  refine c_loop (σ:=Nat × Int) (fun (k,x14_)=>sr03_Same.l0 k l0 l1 x14_=some r0) (fun (k,x14_)=>k) (fun (k,x14_)=>[(0,.slice A0 l0.length c0),(1,.slice A1 l1.length c1),(4,.bool false),(5,.I x14_)]) (fun (k,x14_)=>[.f (KU A0 c0 l0),.f (KU A1 c1 l1)]) (k,0) [0,1] rfl H (subF_spec ⟨rfl,rfl,rfl,rfl,trivial⟩) rfl (by decide) ?_
  rintro ⟨k0_,x14_⟩ hs23_
  clear H
  have H:sr03_Same.l0 k0_ l0 l1 x14_=some r0:=hs23_
  try clear hs23_
  rcases k0_ with _ | k0_
  ·exact none_no (show none=_ from H)
  unfold sr03_Same.l0 at H
  have hko_0:k0_≤k0_:=Nat.le_refl _
  refine c_seq rfl ?_
  refine c_seq rfl ?_
  refine r_ordb (l:=[0,1,2,3]) rfl (by kernel_rfl) ?_
  refine sM rfl ?_
  refine sM rfl ?_
  refine sV rfl (v_len rfl rfl rfl Tryz.underlying24 rfl rfl) ?_
  refine sR rfl ?_
  refine sQ ?_
  rcases Bool.eq_false_or_eq_true (decide ((x14_:Int)<(l0.length:Int))) with h27_ | h27_
  ·
   replace H:=ite_y (dec_t h27_) H
   refine cT h27_ rfl ?_
   refine kQ rfl ?_
   refine c_seq rfl ?_
   refine c_block rfl ?_
   refine c_seq rfl ?_
   obtain ⟨n36_,H⟩:=ite_no H
   obtain ⟨n37_,H⟩:=ite_no H
   refine r_any [.f (KU A0 c0 l0),.f (KU A1 c1 l1)] (by kernel_rfl) rfl (by kernel_rfl) (mem_pick (idx:=[0,1]) rfl) ?_
   refine aV 0 rfl (by kernel_rfl) (vM rfl) ?_
   refine aV 1 rfl (by kernel_rfl) (vM rfl) ?_
   refine aV 2 rfl (by kernel_rfl) (v_iaK (i:=0) rfl Tryz.underlying24 SZ41 rfl rfl rfl rfl n36_ (dec_t h27_)) ?_
   refine aV 3 rfl (by kernel_rfl) (v_ldK (v := .U (rd l0 x14_)) 0 0 rfl Tryz.underlying41 rfl rfl rfl rfl n36_ (dec_t h27_) (fun w K h=>h)) ?_
   refine aV 4 rfl (by kernel_rfl) (vM rfl) ?_
   refine aV 5 rfl (by kernel_rfl) (vM rfl) ?_
   refine aV 6 rfl (by kernel_rfl) (v_iaK (i:=1) rfl Tryz.underlying24 SZ41 rfl rfl rfl rfl n36_ n37_) ?_
   refine aV 7 rfl (by kernel_rfl) (v_ldK (v := .U (rd l1 x14_)) 0 1 rfl Tryz.underlying41 rfl rfl rfl rfl n36_ n37_ (fun w K h=>h)) ?_
   refine aV 8 rfl (by kernel_rfl) (vR rfl) ?_
   refine a_end (by kernel_rfl) ?_
   refine q_seq ?_
   rcases Bool.eq_false_or_eq_true ((rd l0 x14_:Int) != (rd l1 x14_)) with h38_ | h38_
   ·
    replace H:=ite_n (ibne_t h38_) H
    refine cT h38_ rfl ?_
    refine c_seq rfl ?_
    refine r_ordb (l:=[0]) rfl (by kernel_rfl) ?_
    refine sA rfl ?_
    refine sQ ?_
    refine c_ret rfl ?_
    refine q_block_ret ?_
    refine q_then_ret ?_
    refine q_then_ret ?_
    refine q_block_ret ?_
    refine q_then_ret ?_
    have e_:=Option.some.inj H
    subst e_
    exact q_ret (vs:=[.bool false]) rfl (.tmp rfl .nil) [] rfl (by decide) (hX)
   ·
    replace H:=ite_y (ibne_f h38_) H
    refine cF h38_ rfl ?_
    refine c_skip rfl ?_
    refine q_block ?_
    refine q_seq ?_
    refine r_ordb (l:=[0,1,2]) rfl (by kernel_rfl) ?_
    refine sM rfl ?_
    refine sR rfl ?_
    refine sA rfl ?_
    refine s_end ?_
    exact q_again (k0_,IntKind.wrap .i64 (x14_+1)) [0,1] H (Nat.lt_succ_of_le hko_0) (subF_spec ⟨rfl,rfl,rfl,rfl,trivial⟩) rfl (by decide)
  ·
   replace H:=ite_n (dec_f h27_) H
   refine cF h27_ rfl ?_
   refine c_exit (i:=0) rfl rfl ?_
   refine q_then_exit ?_
   refine q_then_exit ?_
   refine q_block_here rfl ?_
   refine q_seq ?_
   refine c_seq rfl ?_
   refine r_ordb (l:=[0]) rfl (by kernel_rfl) ?_
   refine sA rfl ?_
   refine sQ ?_
   refine c_ret rfl ?_
   have e_:=Option.some.inj H
   subst e_
   exact q_ret (vs:=[.bool true]) rfl (.tmp rfl .nil) [] rfl (by decide) (hX)
def sr02_Of.f (a0:Int):Option Int:=some (IntKind.wrap .u64 (Int.tdiv a0 2))
def sr07_With.l0:Nat→List S88→Int→Int→Bool→Int→List S88→Option (List S88)
 | 0,_,_,_,_,_,_=>none
 | k+1,l0,a1_0,a1_1,x31_,x32_,xs29_=>(if (x32_:Int)<(l0.length:Int) then ((if 0≤(x32_:Int) then (if ((rd_T88 l0 x32_).f0:Int)≥a1_0 then some (true,true,!x31_) else some (false,false,false)) else none):Option (Bool × Bool × Bool)).bind fun (j122_,j123_,j124_)=>(if j124_=true then (if xs29_.length<8796093022208 then (if 0≤(x32_:Int) then (if ((rd_T88 l0 x32_).f0:Int)=a1_0 then sr07_With.l0 k l0 a1_0 a1_1 true (IntKind.wrap .i64 (x32_+1)) (xs29_ ++ [(⟨a1_0,a1_1⟩:S88)]) else (if (xs29_ ++ [(⟨a1_0,a1_1⟩:S88)]).length<8796093022208 then sr07_With.l0 k l0 a1_0 a1_1 true (IntKind.wrap .i64 (x32_+1)) ((xs29_ ++ [(⟨a1_0,a1_1⟩:S88)]) ++ [(rd_T88 l0 x32_)]) else none)) else none) else none) else (if 0≤(x32_:Int) then (if ((rd_T88 l0 x32_).f0:Int)=a1_0 then sr07_With.l0 k l0 a1_0 a1_1 x31_ (IntKind.wrap .i64 (x32_+1)) xs29_ else (if xs29_.length<8796093022208 then sr07_With.l0 k l0 a1_0 a1_1 x31_ (IntKind.wrap .i64 (x32_+1)) (xs29_ ++ [(rd_T88 l0 x32_)]) else none)) else none)) else (if x31_=true then some xs29_ else (if xs29_.length<8796093022208 then some (xs29_ ++ [(⟨a1_0,a1_1⟩:S88)]) else none)))
def sr07_With.f (k:Nat) (l0:List S88) (a1_0:Int) (a1_1:Int):Option (List S88):=sr07_With.l0 k l0 a1_0 a1_1 false 0 ([]:List S88)
end Go.Eng
namespace Go.Eng
open Go.Proofs Go.RowKit Go.Proofs.YtgbcnokeaaabfaaGreatW.PrintWords
set_option linter.unusedVariables false
set_option linter.unusedSimpArgs false
def sr21_Map.l0:Nat→Int→Int→Int→Int→Int→Int→Int→List Int→List Int→Int→List S88→Option (List S88)
 | 0,_,_,_,_,_,_,_,_,_,_,_=>none
 | k+1,p0,p1,p2,p3,p4,p5,p6,l1,t8_,x36_,l35_=>(if (x36_:Int)<(t8_.length:Int) then (if 0≤(x36_:Int) then (sr01_Index.f (rd t8_ x36_)).bind fun t86_=>(sr21_at.f p0 p1 p2 p3 p4 p5 p6 l1 t86_ 2).bind fun t90_=>(sr02_Dead.f t90_).bind fun t94_=>(if t94_=true then sr21_Map.l0 k p0 p1 p2 p3 p4 p5 p6 l1 t8_ (IntKind.wrap .i64 (x36_+1)) l35_ else (sr21_at.f p0 p1 p2 p3 p4 p5 p6 l1 t86_ 1).bind fun t98_=>(sr02_Of.f t90_).bind fun t100_=>(sr07_With.f k l35_ t98_ t100_).bind fun t102_=>sr21_Map.l0 k p0 p1 p2 p3 p4 p5 p6 l1 t8_ (IntKind.wrap .i64 (x36_+1)) t102_) else none) else some l35_)
def sr21_Map.f (k:Nat) (p0:Int) (p1:Int) (p2:Int) (p3:Int) (p4:Int) (p5:Int) (p6:Int) (l1:List Int):Option (List S88):=(sr21_Level.f k p0 p1 p2 p3 p4 p5 p6 l1 0).bind fun (t8_,t9_)=>sr21_Map.l0 k p0 p1 p2 p3 p4 p5 p6 l1 t8_ 0 ([]:List S88)
def sr07_Equal.l0:Nat→List S88→List S88→Int→Option Bool
 | 0,_,_,_=>none
 | k+1,l0,l1,x14_=>(if (x14_:Int)<(l0.length:Int) then (if 0≤(x14_:Int) then (if (x14_:Int)<(l1.length:Int) then (if ((((rd_T88 l0 x14_).f0:Int) == ((rd_T88 l1 x14_).f0)) && ((((rd_T88 l0 x14_).f1:Int) == ((rd_T88 l1 x14_).f1))))=true then sr07_Equal.l0 k l0 l1 (IntKind.wrap .i64 (x14_+1)) else some false) else none) else none) else some true)
def sr07_Equal.f (k:Nat) (l0:List S88) (l1:List S88):Option Bool:=(if ((l0.length:Int):Int)=(l1.length:Int) then sr07_Equal.l0 k l0 l1 0 else some false)
def slot_After.f (a0:Int) (a1:Int):Option Int:=(if ((if (a0:Int)<0 then 0 else a0):Int)≥(if (0:Int)<(if (1073741823:Int)<a1 then 1073741823 else a1) then (if (1073741823:Int)<a1 then 1073741823 else a1) else 0) then (slot_word_packed.f 2 (if (0:Int)<(if (1073741823:Int)<a1 then 1073741823 else a1) then (if (1073741823:Int)<a1 then 1073741823 else a1) else 0)).bind fun t10_=>some t10_ else (slot_word_packed.f 0 (IntKind.wrap .i64 ((if (a0:Int)<0 then 0 else a0)+1))).bind fun t15_=>some t15_)
set_option maxRecDepth 100000 in
set_option maxHeartbeats 4000000 in
theorem slot_After_con (a0:Int) (a1:Int) (r0:Int) (h:slot_After.f a0 a1=some r0) (w0:World) (Hs:List Nat):Con Tryz.prog 80 #[.I a0,.I a1] w0 Hs [] (fun X=>X (.U r0) []):=by
 refine con_enter (c:=bodyOf Tryz.f80) Tryz.func80 rfl (m:=20) rfl rfl rfl ?_
 intro X hX _
 have H:=h
 unfold slot_After.f at H
 clear h
 refine c_seq rfl ?_
 refine r_ordb (l:=[0]) rfl (by kernel_rfl) ?_
 refine sA rfl ?_
 refine sE rfl ?_
 refine r_ordb (l:=[0,1,2,3,4,5,6]) rfl (by kernel_rfl) ?_
 refine sM rfl ?_
 refine sV rfl (v_max (x := .tmp 0) (y := .tmp 0) rfl rfl rfl) ?_
 refine sM rfl ?_
 refine sV rfl (v_min (x := .tmp 0) (y := .tmp 0) rfl rfl rfl) ?_
 refine sV rfl (v_max (x := .tmp 0) (y := .tmp 0) rfl rfl rfl) ?_
 refine sA rfl ?_
 refine sA rfl ?_
 refine sE rfl ?_
 refine c_seq rfl ?_
 refine r_ordb (l:=[0,1,2]) rfl (by kernel_rfl) ?_
 refine sM rfl ?_
 refine sM rfl ?_
 refine sR rfl ?_
 refine sQ ?_
 rcases Bool.eq_false_or_eq_true (decide (((if (a0:Int)<0 then 0 else a0):Int)≥(if (0:Int)<(if (1073741823:Int)<a1 then 1073741823 else a1) then (if (1073741823:Int)<a1 then 1073741823 else a1) else 0))) with h6_ | h6_
 replace H:=ite_y (dec_t h6_) H
 refine cT h6_ rfl ?_
 refine c_seq rfl ?_
 refine r_ordb (l:=[0,1,2,3]) rfl (by kernel_rfl) ?_
 refine sM rfl ?_
 refine sV rfl (v_build (places:=#[(0,1),(1,1)]) #[.I 2,.I (if (0:Int)<(if (1073741823:Int)<a1 then 1073741823 else a1) then (if (1073741823:Int)<a1 then 1073741823 else a1) else 0)] rfl ZR174 Tryz.underlying174 (by kernel_rfl) rfl (by kernel_rfl)) ?_
 obtain ⟨t10_,e11_,H⟩:=bind_s H
 refine s_e rfl rfl (eC [] #[.agg #[.I 2,.I (if (0:Int)<(if (1073741823:Int)<a1 then 1073741823 else a1) then (if (1073741823:Int)<a1 then 1073741823 else a1) else 0)]] Tryz.func117 (by decide) rfl (fun w ht=>slot_word_packed_con 2 (if (0:Int)<(if (1073741823:Int)<a1 then 1073741823 else a1) then (if (1073741823:Int)<a1 then 1073741823 else a1) else 0) t10_ e11_ w _)) ?_
 refine sA rfl ?_
 refine sQ ?_
 refine c_ret rfl ?_
 refine q_then_ret ?_
 have e_:=Option.some.inj H
 subst e_
 exact q_ret (vs:=[.U t10_]) rfl (.tmp rfl .nil) [] rfl (by decide) (hX)
 replace H:=ite_n (dec_f h6_) H
 refine cF h6_ rfl ?_
 refine kQ rfl ?_
 refine c_seq rfl ?_
 refine r_ordb (l:=[0,1,2,3,4]) rfl (by kernel_rfl) ?_
 refine sM rfl ?_
 refine sR rfl ?_
 refine sV rfl (v_build (places:=#[(0,1),(1,1)]) #[.I 0,.I (IntKind.wrap .i64 ((if (a0:Int)<0 then 0 else a0)+1))] rfl ZR174 Tryz.underlying174 (by kernel_rfl) rfl (by kernel_rfl)) ?_
 obtain ⟨t15_,e16_,H⟩:=bind_s H
 refine s_e rfl rfl (eC [] #[.agg #[.I 0,.I (IntKind.wrap .i64 ((if (a0:Int)<0 then 0 else a0)+1))]] Tryz.func117 (by decide) rfl (fun w ht=>slot_word_packed_con 0 (IntKind.wrap .i64 ((if (a0:Int)<0 then 0 else a0)+1)) t15_ e16_ w _)) ?_
 refine sA rfl ?_
 refine sQ ?_
 refine c_ret rfl ?_
 have e_:=Option.some.inj H
 subst e_
 exact q_ret (vs:=[.U t15_]) rfl (.tmp rfl .nil) [] rfl (by decide) (hX)
def slot_Gen.f (a0:Int):Option Int:=some (IntKind.wrap .i64 (if (1073741823:Int)<(Int.fdiv a0 (2 ^ (min (Int.toNat 2) (IntKind.bits .u64)))) then 1073741823 else Int.fdiv a0 (2 ^ (min (Int.toNat 2) (IntKind.bits .u64)))))
set_option maxRecDepth 100000 in
set_option maxHeartbeats 4000000 in
theorem slot_Gen_con (a0:Int) (r0:Int) (h:slot_Gen.f a0=some r0) (w0:World) (Hs:List Nat):Con Tryz.prog 81 #[.U a0] w0 Hs [] (fun X=>X (.I r0) []):=by
 refine con_enter (c:=bodyOf Tryz.f81) Tryz.func81 rfl (m:=7) rfl rfl rfl ?_
 intro X hX _
 have H:=h
 unfold slot_Gen.f at H
 clear h
 refine c_seq rfl ?_
 refine r_ordb (l:=[0]) rfl (by kernel_rfl) ?_
 refine sA rfl ?_
 refine sE rfl ?_
 refine r_ordb (l:=[0,1,2,3,4]) rfl (by kernel_rfl) ?_
 refine sM rfl ?_
 refine sV rfl (v_shr rfl rfl rfl (by omega)) ?_
 refine sV rfl (v_min (x := .tmp 0) (y := .tmp 0) rfl rfl rfl) ?_
 refine sV rfl (v_conv rfl Tryz.underlying41 Tryz.underlying3 rfl) ?_
 refine sA rfl ?_
 refine sQ ?_
 refine c_ret rfl ?_
 have e_:=Option.some.inj H
 subst e_
 exact q_ret (vs:=[.I (IntKind.wrap .i64 (if (1073741823:Int)<(Int.fdiv a0 (2 ^ (min (Int.toNat 2) (IntKind.bits .u64)))) then 1073741823 else Int.fdiv a0 (2 ^ (min (Int.toNat 2) (IntKind.bits .u64)))))]) rfl (.tmp rfl .nil) [] rfl (by decide) (hX)
end Go.Eng
namespace Go.Eng
open Go.RowKit Go.Proofs.YtgbcnokeaaabfaaGreatW.PrintWords
set_option linter.unusedVariables false
set_option linter.unusedSimpArgs false
structure R7 (T S C H K V L:Int):Prop where
 t:1≤T∧T≤8
 s:1≤S∧S≤8
 c:1≤C∧C≤64
 h:1≤H∧H≤6
 k:1≤K∧K≤64
 v:1≤V∧V≤64
 l:0≤L∧L≤1073741823
def r7 (T S C H K V L:Int):Bool:=decide (1≤T) && decide (T≤8) && decide (1≤S) && decide (S≤8) && decide (1≤C) && decide (C≤64) && decide (1≤H) && decide (H≤6) && decide (1≤K) && decide (K≤64) && decide (1≤V) && decide (V≤64) && decide (0≤L) && decide (L≤1073741823)
theorem r7_iff {T S C H K V L:Int}:r7 T S C H K V L=true↔R7 T S C H K V L:=by
 unfold r7
 simp only [Bool.and_eq_true,decide_eq_true_eq]
 constructor
 ·rintro ⟨⟨⟨⟨⟨⟨⟨⟨⟨⟨⟨⟨⟨h1,h2⟩,h3⟩,h4⟩,h5⟩,h6⟩,h7⟩,h8⟩,h9⟩,h10⟩,h11⟩,h12⟩,h13⟩,h14⟩
  exact ⟨⟨h1,h2⟩,⟨h3,h4⟩,⟨h5,h6⟩,⟨h7,h8⟩,⟨h9,h10⟩,⟨h11,h12⟩,⟨h13,h14⟩⟩
 ·rintro ⟨⟨h1,h2⟩,⟨h3,h4⟩,⟨h5,h6⟩,⟨h7,h8⟩,⟨h9,h10⟩,⟨h11,h12⟩,⟨h13,h14⟩⟩
  exact ⟨⟨⟨⟨⟨⟨⟨⟨⟨⟨⟨⟨⟨h1,h2⟩,h3⟩,h4⟩,h5⟩,h6⟩,h7⟩,h8⟩,h9⟩,h10⟩,h11⟩,h12⟩,h13⟩,h14⟩
theorem to_eq (x lo hi:Int) (h:lo≤hi):((x:Int) == (if lo<(if hi<x then hi else x) then (if hi<x then hi else x) else lo))=(decide (lo≤x) && decide (x≤hi)):=by
 by_cases h1:hi<x
 ·rw [if_pos h1]
  have e1:decide (x≤hi)=false:=decide_eq_false (by omega)
  rw [e1,Bool.and_false]
  by_cases h2:lo<hi
  ·rw [if_pos h2]; simp; omega
  ·rw [if_neg h2]; simp; omega
 ·rw [if_neg h1]
  have e1:decide (x≤hi)=true:=decide_eq_true (by omega)
  rw [e1,Bool.and_true]
  by_cases h2:lo<x
  ·rw [if_pos h2]; simp; omega
  ·rw [if_neg h2,Bool.eq_iff_iff]; simp; omega
theorem plan_Right_is (T S C H K V L:Int):plan_Right.f T S C H K V L=some (r7 T S C H K V L):=by
 unfold plan_Right.f plan_to.f
 simp only [Option.bind_some]
 rw [to_eq _ _ _ (by decide),to_eq _ _ _ (by decide),to_eq _ _ _ (by decide),to_eq _ _ _ (by decide),to_eq _ _ _ (by decide),to_eq _ _ _ (by decide),to_eq _ _ _ (by decide)]
 unfold r7
 simp only [Bool.and_assoc]
theorem ref04_Right_is (T S C H K V L:Int):sr04_Right.f T S C H K V L=some (r7 T S C H K V L):=by
 unfold sr04_Right.f
 have key:r7 T S C H K V L=((!(decide (T<1) || decide (T > 8) || decide (S<1) || decide (S > 8) || decide (C<1) || decide (C > 64) || decide (H<1) || decide (H > 6))) && (decide (K≥1) && decide (K≤64) && decide (V≥1) && decide (V≤64) && decide (L≥0) && decide (L≤1073741823))):=by
  rw [Bool.eq_iff_iff,r7_iff]
  simp only [Bool.and_eq_true,Bool.not_eq_true',Bool.or_eq_false_iff,decide_eq_true_eq,decide_eq_false_iff_not]
  constructor
  ·rintro ⟨⟨h1,h2⟩,⟨h3,h4⟩,⟨h5,h6⟩,⟨h7,h8⟩,⟨h9,h10⟩,⟨h11,h12⟩,⟨h13,h14⟩⟩
   omega
  ·intro h
   exact ⟨by omega,by omega,by omega,by omega,by omega,by omega,by omega⟩
 rw [key]
 by_cases h1:T<1
 ·simp [h1]
 by_cases h2:T > 8
 ·simp [h1,h2]
 by_cases h3:S<1
 ·simp [h1,h2,h3]
 by_cases h4:S > 8
 ·simp [h1,h2,h3,h4]
 by_cases h5:C<1
 ·simp [h1,h2,h3,h4,h5]
 by_cases h6:C > 64
 ·simp [h1,h2,h3,h4,h5,h6]
 by_cases h7:H<1
 ·simp [h1,h2,h3,h4,h5,h6,h7]
 by_cases h8:H > 6
 ·simp [h1,h2,h3,h4,h5,h6,h7,h8]
 by_cases h9:K≥1
 ·by_cases h10:K≤64
  ·by_cases h11:V≥1
   ·by_cases h12:V≤64
    ·by_cases h13:L≥0
     ·simp [h1,h2,h3,h4,h5,h6,h7,h8,h9,h10,h11,h12,h13]
     ·simp [h1,h2,h3,h4,h5,h6,h7,h8,h9,h10,h11,h12,h13]
    ·simp [h1,h2,h3,h4,h5,h6,h7,h8,h9,h10,h11,h12]
   ·simp [h1,h2,h3,h4,h5,h6,h7,h8,h9,h10,h11]
  ·simp [h1,h2,h3,h4,h5,h6,h7,h8,h9,h10]
 ·simp [h1,h2,h3,h4,h5,h6,h7,h8,h9]
def lenI (T S C H:Int):Int:=1+T * S+(C+1) * (6+H)
def cellI (T S H i f:Int):Int:=1+T * S+i * (6+H)+f
theorem mul_range {a b:Int} {p q:Int} (h0:0≤a) (h1:a≤p) (h2:0≤b) (h3:b≤q):0≤a * b∧a * b≤p * q :=
 ⟨Int.mul_nonneg h0 h2,Int.mul_le_mul h1 h3 h2 (Int.le_trans h0 h1)⟩
theorem lens {T S C H K V L:Int} (h:R7 T S C H K V L):0≤T * S∧T * S≤64∧0≤(C+1) * (6+H)∧(C+1) * (6+H)≤780:=by
 have h1:=mul_range (a:=T) (b:=S) (p:=8) (q:=8) (by have:=h.t; omega) (by have:=h.t; omega) (by have:=h.s; omega) (by have:=h.s; omega)
 have h2:=mul_range (a:=C+1) (b:=6+H) (p:=65) (q:=12) (by have:=h.c; omega) (by have:=h.c; omega) (by have:=h.h; omega) (by have:=h.h; omega)
 omega
theorem cells {T S C H K V L i f:Int} (h:R7 T S C H K V L) (h0:0≤i) (h1:i≤C) (h2:0≤f) (h3:f<6+H):0≤cellI T S H i f∧cellI T S H i f<lenI T S C H∧0≤i * (6+H)∧i * (6+H)≤768:=by
 have hl:=lens h
 have e1:(C+1) * (6+H)=C * (6+H)+(6+H):=by rw [Int.add_mul,Int.one_mul]
 have h4:=mul_range (a:=i) (b:=6+H) (p:=C) (q:=6+H) h0 h1 (by have:=h.h; omega) (Int.le_refl _)
 have h5:=mul_range (a:=i) (b:=6+H) (p:=64) (q:=12) h0 (by have:=h.c; omega) (by have:=h.h; omega) (by have:=h.h; omega)
 unfold cellI lenI
 have:=h.h
 omega
theorem plan_Len_is (T S C H K V L:Int):plan_Len.f T S C H K V L=some (if r7 T S C H K V L=true then lenI T S C H else 0):=by
 unfold plan_Len.f plan_first.f plan_fields.f
 rw [plan_Right_is]
 simp only [Option.bind_some]
 by_cases h:r7 T S C H K V L=true
 ·rw [if_pos h,if_pos h]
  have hl:=lens (r7_iff.1 h)
  have hc:=(r7_iff.1 h).c
  have hh:=(r7_iff.1 h).h
  rw [wi64 (n:=T * S) (by omega) (by omega),wi64 (n:=1+T * S) (by omega) (by omega),wi64 (n:=6+H) (by omega) (by omega),wi64 (n:=C+1) (by omega) (by omega),wi64 (n:=(C+1) * (6+H)) (by omega) (by omega),wi64 (by omega) (by omega)]
  rfl
 ·rw [if_neg h,if_neg h]
theorem ref04_Len_is (T S C H K V L:Int):sr04_Len.f T S C H K V L=some (if r7 T S C H K V L=true then lenI T S C H else 0):=by
 unfold sr04_Len.f
 rw [ref04_Right_is]
 simp only [Option.bind_some]
 by_cases h:r7 T S C H K V L=true
 ·rw [if_pos h,if_pos h]
  have hl:=lens (r7_iff.1 h)
  have hc:=(r7_iff.1 h).c
  have hh:=(r7_iff.1 h).h
  rw [wi64 (n:=T * S) (by omega) (by omega),wi64 (n:=1+T * S) (by omega) (by omega),wi64 (n:=6+H) (by omega) (by omega),wi64 (n:=C+1) (by omega) (by omega),wi64 (n:=(C+1) * (6+H)) (by omega) (by omega),wi64 (by omega) (by omega)]
  rfl
 ·rw [if_neg h,if_neg h]
def isF (C H i f:Int):Bool:=decide (0≤i) && decide (i≤C) && decide (0≤f) && decide (f<6+H)
theorem isF_iff {C H i f:Int}:isF C H i f=true↔0≤i∧i≤C∧0≤f∧f<6+H:=by
 unfold isF
 simp only [Bool.and_eq_true,decide_eq_true_eq]
 constructor
 ·rintro ⟨⟨⟨a,b⟩,c⟩,d⟩; exact ⟨a,b,c,d⟩
 ·rintro ⟨a,b,c,d⟩; exact ⟨⟨⟨a,b⟩,c⟩,d⟩
theorem cell_wrap {T S C H K V L i f:Int} (h:R7 T S C H K V L) (hf:isF C H i f=true):IntKind.wrap .i64 (IntKind.wrap .i64 (IntKind.wrap .i64 (1+IntKind.wrap .i64 (T * S))+IntKind.wrap .i64 (i * IntKind.wrap .i64 (6+H)))+f)=cellI T S H i f:=by
 obtain ⟨h0,h1,h2,h3⟩:=isF_iff.1 hf
 have hl:=lens h
 have hc:=cells h h0 h1 h2 h3
 have hh:=h.h
 unfold cellI at *
 rw [wi64 (n:=T * S) (by omega) (by omega),wi64 (n:=1+T * S) (by omega) (by omega),wi64 (n:=6+H) (by omega) (by omega),wi64 (n:=i * (6+H)) (by omega) (by omega),wi64 (n:=1+T * S+i * (6+H)) (by omega) (by omega),wi64 (by omega) (by omega)]
theorem within_is (a b c:Int):plan_within.f a b c=some (decide (b≤a) && decide (a≤c)):=by
 unfold plan_within.f
 by_cases h:a≥b
 ·rw [if_pos h,show decide (b≤a)=true from decide_eq_true h]; simp
 ·rw [if_neg h,show decide (b≤a)=false from decide_eq_false h]; simp
theorem plan_Cell_is (T S C H K V L i f:Int):plan_Cell.f T S C H K V L i f=some (if (r7 T S C H K V L && isF C H i f)=true then cellI T S H i f else -1):=by
 unfold plan_Cell.f plan_first.f plan_fields.f
 rw [plan_Right_is]
 simp only [Option.bind_some,within_is]
 by_cases h:r7 T S C H K V L=true
 ·have hh:=(r7_iff.1 h).h
  have e6:IntKind.wrap .i64 (IntKind.wrap .i64 (6+H) - 1)=6+H - 1:=by rw [wi64 (n:=6+H) (by omega) (by omega),wi64 (by omega) (by omega)]
  rw [if_pos h,h,Bool.true_and,e6]
  by_cases h1:(decide (0≤i) && decide (i≤C))=true
  ·rw [if_pos h1]
   simp only [Option.bind_some]
   have e7:(decide (0≤f) && decide (f≤6+H - 1))=isF C H i f:=by
    rw [Bool.eq_iff_iff,isF_iff]
    simp only [Bool.and_eq_true,decide_eq_true_eq] at h1 ⊢
    omega
   rw [e7]
   by_cases h2:isF C H i f=true
   ·rw [h2]
    simp only [Bool.not_true,Bool.false_eq_true,if_false,if_true]
    rw [cell_wrap (r7_iff.1 h) h2]
   ·rw [Bool.not_eq_true] at h2
    rw [h2]
    simp
  ·have h2:isF C H i f=false:=by
    rw [← Bool.not_eq_true,isF_iff]
    simp only [Bool.and_eq_true,decide_eq_true_eq] at h1
    omega
   rw [if_neg h1,h2]
   simp
 ·rw [Bool.not_eq_true] at h
  rw [h]
  simp
theorem ref04_Cell_is (T S C H K V L i f:Int):sr04_Cell.f T S C H K V L i f=some (if (r7 T S C H K V L && isF C H i f)=true then cellI T S H i f else -1):=by
 unfold sr04_Cell.f
 rw [ref04_Right_is]
 simp only [Option.bind_some]
 by_cases h:r7 T S C H K V L=true
 ·have hh:=(r7_iff.1 h).h
  have e6:IntKind.wrap .i64 (6+H)=6+H:=wi64 (by omega) (by omega)
  rw [if_pos h,h,Bool.true_and]
  by_cases h0:i<0
  ·have h2:isF C H i f=false:=by rw [← Bool.not_eq_true,isF_iff]; omega
   rw [if_pos h0,h2]; simp
  ·by_cases h1:i > C
   ·have h2:isF C H i f=false:=by rw [← Bool.not_eq_true,isF_iff]; omega
    rw [if_neg h0,if_pos h1,h2]; simp
   ·by_cases h3:f<0
    ·have h2:isF C H i f=false:=by rw [← Bool.not_eq_true,isF_iff]; omega
     rw [if_neg h0,if_neg h1,if_pos h3,h2]; simp
    ·rw [if_neg h0,if_neg h1,if_neg h3]
     by_cases h2:isF C H i f=true
     ·have h4:decide (f≥IntKind.wrap .i64 (6+H))=false:=by rw [e6]; have:=isF_iff.1 h2; exact decide_eq_false (by omega)
      rw [h4,h2]
      simp only [Option.bind_some,Bool.false_eq_true,if_false,if_true]
      rw [cell_wrap (r7_iff.1 h) h2]
     ·have h4:decide (f≥IntKind.wrap .i64 (6+H))=true:=by rw [e6]; rw [isF_iff] at h2; exact decide_eq_true (by omega)
      rw [Bool.not_eq_true] at h2
      rw [h4,h2]; simp
 ·rw [Bool.not_eq_true] at h
  rw [h]
  simp
end Go.Eng
namespace Go.Eng
open Go.Proofs Go.RowKit Go.Proofs.YtgbcnokeaaabfaaGreatW.PrintWords
set_option linter.unusedVariables false
set_option linter.unusedSimpArgs false
def ylF (C:Int) (nm:Int→Bool) (pl nx:Int→Int):Nat→Int→Int→List (Int × Int)
 | 0,_,_=>[]
 | m+1,j,x=>if j≤C then (if nm x=true then (j,pl x) :: ylF C nm pl nx m (j+1) (nx x) else []) else []
theorem attach_step {α:Type} {l:List α} {j:Nat} {x:α} (h:l[j]?=some x):∃ a:{p:α // p∈l},a.1=x∧l.attach.take (j+1)=l.attach.take j ++ [a]:=by
 have hj:j<l.length:=(List.getElem?_eq_some_iff.1 h).1
 have hj2:j<l.attach.length:=by rw [List.length_attach]; exact hj
 refine ⟨l.attach[j],?_,?_⟩
 ·rw [List.getElem_attach]
  exact (List.getElem?_eq_some_iff.1 h).2
 ·rw [List.take_add_one,List.getElem?_eq_getElem hj2]
  rfl
set_option maxRecDepth 100000 in
set_option maxHeartbeats 4000000 in
theorem level1_stops (n:Nat) (hn:1≤n) (bw bk:Nat) (G:List Nat) (T S C H K V L:Int) (A:Option Addr) (c:Nat) (l:List Int) (lev x0:Int) (nm:Int→Bool) (pl nx:Int→Int) (N:Nat) (hN:(N:Int)≤1000000) (hCN:C<N)
  (hx0:sw_at.f T S C H K V L l 0 (IntKind.wrap .i64 (6+lev))=some x0) (hnm:∀ x,sw_names.f T S C H K V L l x=some (nm x)) (hpl:∀ x,handle_Plain.f x=some (pl x)) (hnx:∀ x,nm x=true→sw_at.f T S C H K V L l (x % 4294967296) (IntKind.wrap .i64 (6+lev))=some (nx x))
  (w:World) (hBw:w.heap[bw]?=some (.cells (cfB T S C H K V L A l.length c) 104 (0,0))) (hBk:w.heap[bk]?=some (.cells #[.I lev] 3 (0,0))) (hwg:bw ∉ G) (hkg:bk ∉ G) (hC:Stab G w (KU A c l)) :
  SeqStopsK Fence.wide n Tryz.prog 98 #[.P bw,.P bk] (fun x:{p:Int × Int // p∈(ylF C nm pl nx N 0 x0)}=>#[Value.I x.1.1,Value.U x.1.2]) (KG w.heap.size G) (fun ys=>ys=(ylF C nm pl nx N 0 x0).attach) (fun pre=>pre <+: (ylF C nm pl nx N 0 x0).attach) ((ylF C nm pl nx N 0 x0)).length w:=fun ly J Jx W hW hJ hJx hY h0=>by
 have agree_of:∀ W1,KG w.heap.size G w W1→Agree G w W1:=fun W1 h=>⟨h.os,h.tape,h.output,h.size,fun b hb hn=>h.block b hb hn⟩
 have stabPsi:∀ pre W1,(J pre W1∧KG w.heap.size G w W1∧W.heap.size≤W1.heap.size)→Stab [] W1 (fun W_=>J pre W_∧KG w.heap.size G w W_∧W.heap.size≤W_.heap.size):=fun pre W1 h W2 ha =>
  ⟨hJ pre W1 W2 none h.1 ⟨ha.os,ha.tape,ha.output,ha.size,fun k hk _=>ha.frame k hk (by simp)⟩ (fun r e=>by cases e),h.2.1.trans ⟨ha.os,ha.tape,ha.output,ha.size,fun k hk _=>ha.frame k (Nat.lt_of_lt_of_le hk h.2.1.size) (by simp)⟩,Nat.le_trans h.2.2 ha.size⟩
 have stabJx:∀ pre W1,Jx pre W1→Stab [] W1 (Jx pre):=fun pre W1 h W2 ha=>hJx pre W1 W2 none h ⟨ha.os,ha.tape,ha.output,ha.size,fun k hk _=>ha.frame k hk (by simp)⟩ (fun r e=>by cases e)
 have stab1:∀ φ:World→Prop,Stab G w φ→∀ W1,KG w.heap.size G w W1→Stab [] W1 φ:=fun φ hφ W1 h=>hφ.on (agree_of W1 h) (fun x hx _=>by cases hx)
 have sBw:Stab G w (fun w=>w.heap[bw]?=some (.cells (cfB T S C H K V L A l.length c) 104 (0,0))):=fun W1 ha=>(ha.frame bw (Array.getElem?_eq_some_iff.1 hBw).1 hwg).trans hBw
 have sBk:Stab G w (fun w=>w.heap[bk]?=some (.cells #[.I lev] 3 (0,0))):=fun W1 ha=>(ha.frame bk (Array.getElem?_eq_some_iff.1 hBk).1 hkg).trans hBk
 have tri_of:∀ (φs:List (World→Prop)) (W1:World),Agree G w W1→(∀ φ∈φs,Stab [] W1 φ)→Tri w ⟨G,[]⟩ W1 (φs.map Ent.f):=fun φs W1 ha h=>{ toAgree:=ha,at_:=fun k o hk=>(by obtain ⟨φ,_,e⟩:=List.mem_map.1 hk; cases e),own:=fun k hk=>(by rw [ids_facts] at hk; cases hk),nodup:=(by rw [ids_facts]; exact List.nodup_nil),hol:=fun k hk=>(by cases hk),facts:=fun φ hφ=>(by obtain ⟨ψ,hψ,e⟩:=List.mem_map.1 hφ; injection e with e; subst e; rw [ids_facts]; exact h ψ hψ) }
 have hyield:∀ (j:Nat) (x:Int) (a_:{p:Int × Int // p∈(ylF C nm pl nx N 0 x0)}) (ha_:a_.1=((j:Int),pl x)) (w1:World),Tri w ⟨G,[]⟩ w1 [.f (fun W_=>J ((ylF C nm pl nx N 0 x0).attach.take j) W_∧KG w.heap.size G w W_∧W.heap.size≤W_.heap.size),.f (fun w=>w.heap[bw]?=some (.cells (cfB T S C H K V L A l.length c) 104 (0,0))),.f (fun w=>w.heap[bk]?=some (.cells #[.I lev] 3 (0,0))),.f (KU A c l)]→j<(ylF C nm pl nx N 0 x0).length→(ylF C nm pl nx N 0 x0).attach.take (j+1)=(ylF C nm pl nx N 0 x0).attach.take j ++ [a_]→YieldAt Fence.wide (n - 1) Tryz.prog ly #[.I (j:Int),.U (pl x)] w1 (fun e w'=>(e = .returned (.bool true)∧Tri w ⟨G,[]⟩ w' [.f (fun W_=>J ((ylF C nm pl nx N 0 x0).attach.take (j+1)) W_∧KG w.heap.size G w W_∧W.heap.size≤W_.heap.size),.f (fun w=>w.heap[bw]?=some (.cells (cfB T S C H K V L A l.length c) 104 (0,0))),.f (fun w=>w.heap[bk]?=some (.cells #[.I lev] 3 (0,0))),.f (KU A c l)])∨(e = .returned (.bool false)∧Tri w' ⟨[],[]⟩ w' [.f (Jx ((ylF C nm pl nx N 0 x0).attach.take (j+1)))])):=by
  intro j x a_ ha_ w1 ht1 hlt htk
  have h1:=(ht1.fact 0 rfl:J ((ylF C nm pl nx N 0 x0).attach.take j) w1∧KG w.heap.size G w w1∧W.heap.size≤w1.heap.size)
  obtain ⟨fn,tmps,assign,body,hy,hR⟩:=hY ((ylF C nm pl nx N 0 x0).attach.take j) a_ w1 h1.1 (by rw [List.length_take,List.length_attach]; omega)
  simp only [ha_] at hy
  refine ⟨fn,tmps,assign,body,hy,hR.mono ?_⟩
  rintro e W3 (⟨rfl,hJ3,hk3⟩ | ⟨rfl,hJx3⟩)
  ·refine .inl ⟨rfl,?_⟩
   rw [htk]
   have hk4:KG w.heap.size G w W3:=h1.2.1.trans hk3
   have hps:=stabPsi _ W3 ⟨hJ3,hk4,Nat.le_trans h1.2.2 hk3.size⟩
   refine tri_of [_,_,_,_] W3 ?_ ?_
   ·exact agree_of W3 hk4
   ·intro φ hφ
    simp only [List.mem_cons,List.not_mem_nil,or_false] at hφ
    rcases hφ with rfl | rfl | rfl | rfl
    ·exact hps
    ·exact stab1 _ sBw W3 hk4
    ·exact stab1 _ sBk W3 hk4
    ·exact stab1 _ hC W3 hk4
  ·refine .inr ⟨rfl,?_⟩
   rw [htk]
   refine { toAgree:=Agree.refl _ _,at_:=fun k o hk=>(by simp at hk),own:=fun k hk=>(by cases hk),nodup:=List.nodup_nil,facts:=fun φ hφ=>?_,hol:=fun k hk=>(by cases hk) }
   rw [List.mem_singleton] at hφ
   injection hφ with e
   subst e
   exact stabJx _ W3 hJx3
 have ht0:Tri w ⟨G,[]⟩ W [.f (fun W_=>J ([]) W_∧KG w.heap.size G w W_∧W.heap.size≤W_.heap.size),.f (fun w=>w.heap[bw]?=some (.cells (cfB T S C H K V L A l.length c) 104 (0,0))),.f (fun w=>w.heap[bk]?=some (.cells #[.I lev] 3 (0,0))),.f (KU A c l)]:=by
  have hk0:KG w.heap.size G w W:=⟨hW.os,hW.tape,hW.output,hW.size,fun k hk _=>hW.block k hk⟩
  refine tri_of [_,_,_,_] W (agree_of W hk0) ?_
  intro φ hφ
  simp only [List.mem_cons,List.not_mem_nil,or_false] at hφ
  rcases hφ with rfl | rfl | rfl | rfl
  ·exact stabPsi _ W ⟨h0,hk0,Nat.le_refl _⟩
  ·exact stab1 _ sBw W hk0
  ·exact stab1 _ sBk W hk0
  ·exact stab1 _ hC W hk0
 refine ins_enter (c:=bodyOf Tryz.f98) Tryz.func98 rfl (m:=34) rfl rfl rfl ht0 (fun _ _ h=>(by obtain ⟨⟨v,h⟩,_⟩:=h; cases h)) (fun _ h=>(by obtain ⟨⟨v,h⟩,_⟩:=h; cases h)) ?_
 refine c_seq rfl ?_
 refine r_ordb (l:=[0,1,2,3,4]) rfl (by kernel_rfl) ?_
 refine sV rfl (v_ldAr [.I T,.I S,.I C,.I H,.I K,.I V,.I L,.slice A l.length c] 1 rfl Tryz.underlying104 rfl SZ104 rfl rfl rfl rfl) ?_
 refine sV rfl (v_ldr 2 rfl Tryz.underlying3 rfl rfl rfl rfl) ?_
 refine sR rfl ?_
 refine s_e rfl rfl (eC [3] #[.agg (cfB T S C H K V L A l.length c),.I 0,.I (IntKind.wrap .i64 (6+lev))] Tryz.func78 (by decide) rfl (fun w ht=>sw_at_con T S C H K V L A c l 0 (IntKind.wrap .i64 (6+lev)) x0 hx0 w _)) ?_
 refine sA rfl ?_
 refine sE rfl ?_
 refine r_ordb (l:=[0]) rfl (by kernel_rfl) ?_
 refine sA rfl ?_
 refine sQ ?_
 refine c_block rfl ?_
 refine c_loop (σ:=Nat × Int) (fun (j,x)=>j≤(ylF C nm pl nx N 0 x0).length∧(ylF C nm pl nx N 0 x0).drop j=ylF C nm pl nx (N - j) j x∧j≤N) (fun (j,x)=>(ylF C nm pl nx N 0 x0).length - j) (fun (j,x)=>[(0,.func (.yield ly) #[] #[]),(1,.P bw),(2,.P bk),(4,.U x),(5,.I (j:Int))]) (fun (j,x)=>[.f (fun W_=>J ((ylF C nm pl nx N 0 x0).attach.take j) W_∧KG w.heap.size G w W_∧W.heap.size≤W_.heap.size),.f (fun w=>w.heap[bw]?=some (.cells (cfB T S C H K V L A l.length c) 104 (0,0))),.f (fun w=>w.heap[bk]?=some (.cells #[.I lev] 3 (0,0))),.f (KU A c l)]) (0,x0) [0,1,2,3] rfl ⟨Nat.zero_le _,rfl,Nat.zero_le _⟩ (subF_spec ⟨rfl,rfl,rfl,rfl,rfl,trivial⟩) rfl (by decide) ?_
 rintro ⟨j,x⟩ ⟨hj,hd,hjN⟩
 refine c_seq rfl ?_
 refine c_seq rfl ?_
 refine r_ordb (l:=[0,1,2,3,4,5,6,7,8,9]) rfl (by kernel_rfl) ?_
 refine sM rfl ?_
 refine sV rfl (vF Tryz.underlying104 SZ23 rfl) ?_
 refine sV rfl (vF Tryz.underlying23 SZ3 rfl) ?_
 refine sV rfl (v_ldr 1 rfl Tryz.underlying3 rfl rfl rfl rfl) ?_
 refine sR rfl ?_
 refine sM rfl ?_
 rcases Bool.eq_false_or_eq_true (decide (((j:Int):Int)≤C)) with h1_ | h1_
 ·
  refine s_splitv (d:=15) (t:=decide (((j:Int):Int)≤C)) rfl (fun _=>?_) (fun h2_=>absurd (h2_.symm.trans h1_) (by decide))
  refine sG rfl (v_ldAr [.I T,.I S,.I C,.I H,.I K,.I V,.I L,.slice A l.length c] 1 rfl Tryz.underlying104 rfl SZ104 rfl rfl rfl rfl) ?_
  refine sG rfl (vM rfl) ?_
  refine s_eg rfl rfl (eC [3] #[.agg (cfB T S C H K V L A l.length c),.U x] Tryz.func75 (by decide) rfl (fun w ht=>sw_names_con T S C H K V L A c l x (nm x) (hnm x) w _)) ?_
  refine sP rfl ?_
  refine sQ ?_
  rcases Bool.eq_false_or_eq_true (nm x) with h3_ | h3_
  ·
   refine cT h3_ rfl ?_
   refine kQ rfl ?_
   refine c_seq rfl ?_
   refine c_block rfl ?_
   refine c_seq rfl ?_
   refine c_seq rfl ?_
   refine r_ordI (l:=[0,1,2,3,4,5]) rfl (by kernel_rfl) ?_
   refine si_v rfl rfl (by kernel_rfl) rfl rfl (vM rfl) ?_
   refine si_v rfl rfl (by kernel_rfl) rfl rfl (vM rfl) ?_
   refine si_v rfl rfl (by kernel_rfl) rfl rfl (vM rfl) ?_
   refine si_e rfl rfl (by kernel_rfl) (eC [] #[.U x] Tryz.func99 (by decide) rfl (fun w ht=>handle_Plain_con x (pl x) (hpl x) w _)) ?_
   have hjC:(j:Int)≤C:=of_decide_eq_true h1_
   obtain ⟨m_,hm_⟩:∃ m_,N - j=m_+1:=⟨N - j - 1,by omega⟩
   have hcons:(ylF C nm pl nx N 0 x0).drop j=((j:Int),pl x) :: ylF C nm pl nx m_ ((j:Int)+1) (nx x):=by rw [hd,hm_,ylF,if_pos hjC,if_pos h3_]
   have hlt:j<(ylF C nm pl nx N 0 x0).length:=by
    have:=congrArg List.length hcons
    simp only [List.length_drop,List.length_cons] at this
    omega
   have hget:(ylF C nm pl nx N 0 x0)[j]?=some ((j:Int),pl x):=by have:=congrArg List.head? hcons; simpa using this
   obtain ⟨a_,ha_,htk⟩:=attach_step hget
   have hd2:(ylF C nm pl nx N 0 x0).drop (j+1)=ylF C nm pl nx (N - (j+1)) ((j+1:Nat):Int) (nx x):=by
    have:=congrArg List.tail hcons
    simp only [List.tail_drop,List.tail_cons] at this
    rw [this,show N - (j+1)=m_ by omega]
    rfl
   have hjN2:j+1≤N:=by omega
   have hjw:IntKind.wrap .i64 ((j:Int)+1)=((j+1:Nat):Int):=by rw [wi64 (by omega) (by omega)]; rfl
   refine si_yield (ly:=ly) (L1:=[.f (fun W_=>J ((ylF C nm pl nx N 0 x0).attach.take (j+1)) W_∧KG w.heap.size G w W_∧W.heap.size≤W_.heap.size),.f (fun w=>w.heap[bw]?=some (.cells (cfB T S C H K V L A l.length c) 104 (0,0))),.f (fun w=>w.heap[bk]?=some (.cells #[.I lev] 3 (0,0))),.f (KU A c l)]) (L0:=[.f (Jx ((ylF C nm pl nx N 0 x0).attach.take (j+1)))]) rfl rfl rfl rfl rfl rfl rfl rfl ?_ ?_ ?_
   ·intro w1 ht1
    exact hyield j x a_ ha_ w1 ht1 hlt htk
   ·
    refine si_v rfl rfl (by kernel_rfl) rfl rfl (v_not rfl rfl) ?_
    refine si_end ?_
    refine q_seq ?_
    refine c_cond0 rfl rfl ?_
    refine kQ rfl ?_
    refine r_any [.f (fun W_=>J ((ylF C nm pl nx N 0 x0).attach.take (j+1)) W_∧KG w.heap.size G w W_∧W.heap.size≤W_.heap.size),.f (fun w=>w.heap[bw]?=some (.cells (cfB T S C H K V L A l.length c) 104 (0,0))),.f (fun w=>w.heap[bk]?=some (.cells #[.I lev] 3 (0,0))),.f (KU A c l)] (by kernel_rfl) rfl (by kernel_rfl) (mem_pick (idx:=[0,1,2,3]) rfl) ?_
    refine aV 0 rfl (by kernel_rfl) (v_ldAr [.I T,.I S,.I C,.I H,.I K,.I V,.I L,.slice A l.length c] 1 rfl Tryz.underlying104 rfl SZ104 rfl rfl rfl rfl) ?_
    refine aV 1 rfl (by kernel_rfl) (vM rfl) ?_
    refine aV 3 rfl (by kernel_rfl) (v_ldr 2 rfl Tryz.underlying3 rfl rfl rfl rfl) ?_
    refine aV 4 rfl (by kernel_rfl) (vR rfl) ?_
    refine a_1 (i:=2) (by kernel_rfl) ?_
    refine i_e rfl rfl (eC [] #[.U x] Tryz.func30 (by decide) rfl (fun w ht=>handle_Index_con x w _)) ?_
    refine ⟨(mem_pick (idx:=[0,1,2,3]) rfl),?_⟩
    refine a_1 (i:=5) (by kernel_rfl) ?_
    refine i_e rfl rfl (eC [3] #[.agg (cfB T S C H K V L A l.length c),.I (x % 4294967296),.I (IntKind.wrap .i64 (6+lev))] Tryz.func78 (by decide) rfl (fun w ht=>sw_at_con T S C H K V L A c l (x % 4294967296) (IntKind.wrap .i64 (6+lev)) (nx x) (hnx x h3_) w _)) ?_
    refine ⟨(mem_pick (idx:=[0,1,2,3]) rfl),?_⟩
    refine aV 6 rfl (by kernel_rfl) (vA rfl) ?_
    refine a_end (by kernel_rfl) ?_
    refine q_block ?_
    refine q_seq ?_
    refine r_ordb (l:=[0,1,2]) rfl (by kernel_rfl) ?_
    refine sM rfl ?_
    refine sR rfl ?_
    refine sA rfl ?_
    refine s_end ?_
    exact q_again (j+1,nx x) [0,1,2,3] ⟨hlt,hd2,hjN2⟩ (show (ylF C nm pl nx N 0 x0).length - (j+1)<(ylF C nm pl nx N 0 x0).length - j by omega) (subF_spec ⟨rfl,rfl,rfl,rfl,congrArg some (congrArg (Value.int .i64) hjw),trivial⟩) rfl (by decide)
   ·
    intro w_
    refine si_v rfl rfl (by kernel_rfl) rfl rfl (v_not rfl rfl) ?_
    refine si_end ?_
    refine q_seq ?_
    refine c_cond1 rfl rfl ?_
    refine c_ret rfl ?_
    refine q_then_ret ?_
    refine q_block_ret ?_
    refine q_then_ret ?_
    refine q_then_ret ?_
    refine q_block_ret ?_
    refine q_all (fun a_ w_ hf_ ht_=>?_)
    refine bodyPost_ret (results_none rfl _ _ _) hf_.defers ?_
    exact ⟨⟨_,rfl⟩,.inr ⟨_,List.take_prefix _ _,ht_.fact 0 rfl⟩⟩
  ·
   refine cF h3_ rfl ?_
   refine c_exit (i:=0) rfl rfl ?_
   refine q_then_exit ?_
   refine q_then_exit ?_
   refine q_block_here rfl ?_
   have hend:(ylF C nm pl nx N 0 x0).drop j=[]:=by
    rw [hd]
    cases N - j with
    | zero=>rfl
    | succ m_=>rw [ylF,if_pos (of_decide_eq_true h1_),if_neg (by rw [h3_]; decide)]
   have hjl:(ylF C nm pl nx N 0 x0).length≤j:=List.drop_eq_nil_iff.1 hend
   refine q_all (fun a_ w_ hf_ ht_=>?_)
   have h1:=(ht_.fact 0 rfl:J ((ylF C nm pl nx N 0 x0).attach.take j) w_∧_).1
   rw [List.take_of_length_le (by rw [List.length_attach]; exact hjl)] at h1
   refine ⟨hf_.defers,_,results_none rfl _ _ _,?_⟩
   exact ⟨⟨_,rfl⟩,.inl ⟨_,rfl,h1⟩⟩
 ·
  refine s_splitv (d:=15) (t:=decide (((j:Int):Int)≤C)) rfl (fun h6_=>absurd (h6_.symm.trans h1_) (by decide)) (fun _=>?_)
  refine sN rfl ?_
  refine sN rfl ?_
  refine sN rfl ?_
  refine sP rfl ?_
  refine sQ ?_
  refine c_cond0 rfl rfl ?_
  refine c_exit (i:=0) rfl rfl ?_
  refine q_then_exit ?_
  refine q_then_exit ?_
  refine q_block_here rfl ?_
  have hend:(ylF C nm pl nx N 0 x0).drop j=[]:=by
   rw [hd]
   cases N - j with
   | zero=>rfl
   | succ m_=>rw [ylF,if_neg (of_decide_eq_false h1_)]
  have hjl:(ylF C nm pl nx N 0 x0).length≤j:=List.drop_eq_nil_iff.1 hend
  refine q_all (fun a_ w_ hf_ ht_=>?_)
  have h1:=(ht_.fact 0 rfl:J ((ylF C nm pl nx N 0 x0).attach.take j) w_∧_).1
  rw [List.take_of_length_le (by rw [List.length_attach]; exact hjl)] at h1
  refine ⟨hf_.defers,_,results_none rfl _ _ _,?_⟩
  exact ⟨⟨_,rfl⟩,.inl ⟨_,rfl,h1⟩⟩
end Go.Eng
namespace Go.Eng
open Go.Proofs Go.RowKit Go.Proofs.YtgbcnokeaaabfaaGreatW.PrintWords
set_option linter.unusedVariables false
set_option linter.unusedSimpArgs false
def okB (T S C H K V L:Int) (l:List Int) (lev:Int):Bool:=r7 T S C H K V L && decide ((l.length:Int)=lenI T S C H) && decide (0≤lev) && decide (lev<H) && l.all fun x=>decide (0≤x)
theorem okB_iff {T S C H K V L:Int} {l:List Int} {lev:Int}:okB T S C H K V L l lev=true↔R7 T S C H K V L∧(l.length:Int)=lenI T S C H∧0≤lev∧lev<H∧∀ x∈l,0≤x:=by
 unfold okB
 simp only [Bool.and_eq_true,decide_eq_true_eq,r7_iff,List.all_eq_true]
 exact ⟨fun ⟨⟨⟨⟨a,b⟩,c⟩,d⟩,e⟩=>⟨a,b,c,d,e⟩,fun ⟨a,b,c,d,e⟩=>⟨⟨⟨⟨a,b⟩,c⟩,d⟩,e⟩⟩
def nmF (T S C H K V L:Int) (l:List Int) (x:Int):Bool:=(sw_names.f T S C H K V L l x).getD false
def plF (x:Int):Int:=(handle_Plain.f x).getD 0
def atF (T S C H K V L:Int) (l:List Int) (i f:Int):Int:=(sw_at.f T S C H K V L l i f).getD 0
def lvlF (T S C H K V L:Int) (l:List Int) (lev:Int):List (Int × Int):=ylF C (nmF T S C H K V L l) plF (fun x=>atF T S C H K V L l (x % 4294967296) (IntKind.wrap .i64 (6+lev))) (C.toNat+1) 0 (atF T S C H K V L l 0 (IntKind.wrap .i64 (6+lev)))
section
variable {T S C H K V L:Int} {l:List Int}
theorem at_some (hr:R7 T S C H K V L) (hl:(l.length:Int)=lenI T S C H) {i f:Int} (hf:isF C H i f=true):sw_at.f T S C H K V L l i f=some (rd l (cellI T S H i f)):=by
 obtain ⟨h1,h2,h3,h4⟩:=isF_iff.1 hf
 have hc:=cells hr h1 h2 h3 h4
 unfold sw_at.f
 rw [plan_Cell_is,r7_iff.2 hr,hf]
 simp only [Bool.and_self,if_true,Option.bind_some]
 rw [if_pos hc.1,if_pos (by rw [hl]; exact hc.2.1)]
theorem at_eq (hr:R7 T S C H K V L) (hl:(l.length:Int)=lenI T S C H) {i f:Int} (hf:isF C H i f=true):sw_at.f T S C H K V L l i f=some (atF T S C H K V L l i f):=by
 unfold atF
 rw [at_some hr hl hf]
 rfl
theorem plain_eq (x:Int):handle_Plain.f x=some (plF x):=rfl
theorem names_eq (x:Int):sw_names.f T S C H K V L l x=some (nmF T S C H K V L l x):=by
 unfold nmF sw_names.f handle_Valid.f
 simp only [Option.bind_some]
 split
 ·split <;> rfl
 ·rfl
theorem names_ix {x:Int} (h:nmF T S C H K V L l x=true):1≤x % 4294967296∧x % 4294967296≤C:=by
 unfold nmF sw_names.f handle_Valid.f at h
 simp only [Option.bind_some] at h
 split at h
 ·split at h
  ·rename_i h1
   simp only [Option.bind_some,Option.getD_some,decide_eq_true_eq] at h
   exact ⟨h1,h⟩
  ·simp at h
 ·simp at h
theorem isF_lev {i lev:Int} (hr:R7 T S C H K V L) (h0:0≤i) (h1:i≤C) (h2:0≤lev) (h3:lev<H):isF C H i (IntKind.wrap .i64 (6+lev))=true:=by
 have:=hr.h
 rw [wi64 (by omega) (by omega)]
 exact isF_iff.2 ⟨h0,h1,by omega,by omega⟩
theorem ylF_len (nm:Int→Bool) (pl nx:Int→Int):∀ (m:Nat) (j x:Int),(ylF C nm pl nx m j x).length≤m
 | 0,_,_=>Nat.le_refl _
 | m+1,j,x=>by
  unfold ylF
  split
  ·split
   ·rw [List.length_cons]; exact Nat.succ_le_succ (ylF_len nm pl nx m _ _)
   ·simp
  ·simp
theorem lvl_len {lev:Int} (h:okB T S C H K V L l lev=true):(lvlF T S C H K V L l lev).length≤65:=by
 have h1:=(okB_iff.1 h).1.c
 have h2:=ylF_len (C:=C) (nmF T S C H K V L l) plF (fun x=>atF T S C H K V L l (x % 4294967296) (IntKind.wrap .i64 (6+lev))) (C.toNat+1) 0 (atF T S C H K V L l 0 (IntKind.wrap .i64 (6+lev)))
 unfold lvlF
 omega
theorem lvl_stops (n:Nat) (hn:1≤n) (bw bk:Nat) (G:List Nat) (T S C H K V L:Int) (A:Option Addr) (c:Nat) (l:List Int) (lev:Int) (hok:okB T S C H K V L l lev=true) (w:World) (hBw:w.heap[bw]?=some (.cells #[.int .i64 T,.int .i64 S,.int .i64 C,.int .i64 H,.int .i64 K,.int .i64 V,.int .i64 L,.slice A l.length c] 104 (0,0))) (hBk:w.heap[bk]?=some (.cells #[.int .i64 lev] 3 (0,0))) (hwg:bw ∉ G) (hkg:bk ∉ G) (hC:Stab G w (KC (Kd.int .u64) A c l)) :
  SeqStopsK Fence.wide n Tryz.prog 98 #[.pointer (some ⟨bw,0,none⟩),.pointer (some ⟨bk,0,none⟩)] (fun x:{p:Int × Int // p∈lvlF T S C H K V L l lev}=>#[Value.int .i64 x.1.1,Value.int .u64 x.1.2]) (KG w.heap.size G) (fun ys=>ys=(lvlF T S C H K V L l lev).attach) (fun pre=>pre <+: (lvlF T S C H K V L l lev).attach) (lvlF T S C H K V L l lev).length w:=by
 obtain ⟨hr,hl,h0,h1,_⟩:=okB_iff.1 hok
 have hc:=hr.c
 exact level1_stops n hn bw bk G T S C H K V L A c l lev _ _ _ _ (C.toNat+1) (by omega) (by omega) (at_eq hr hl (isF_lev hr (Int.le_refl _) (by omega) h0 h1)) names_eq plain_eq (fun x hx=>at_eq hr hl (isF_lev hr (by have:=names_ix hx; omega) (names_ix hx).2 h0 h1)) w hBw hBk hwg hkg hC
end
end Go.Eng
namespace Go.Eng
open Go.Proofs Go.RowKit Go.Proofs.YtgbcnokeaaabfaaGreatW.PrintWords
set_option linter.unusedVariables false
set_option linter.unusedSimpArgs false
set_option maxRecDepth 100000 in
set_option maxHeartbeats 4000000 in
theorem level_con (T S C H K V L:Int) (A:Option Addr) (n_ c:Nat) (lev:Int) (w0:World) (Hs:List Nat):Con Tryz.prog 60 #[.agg (cfB T S C H K V L A n_ c),.I lev] w0 Hs [] (fun X=>∀ bw bk,X (.func (.func 98) #[] #[.P bw,.P bk]) [.b bw (.cells (cfB T S C H K V L A n_ c) 104 (0,0)),.b bk (.cells #[.I lev] 3 (0,0))]):=by
 refine con_enter (c:=bodyOf Tryz.f60) Tryz.func60 rfl (m:=6) rfl rfl rfl ?_
 intro X hX _
 refine c_seq rfl ?_
 refine r_ordb (l:=[0,1,2]) rfl (by kernel_rfl) ?_
 refine s_e rfl rfl (e_box rfl rfl rfl rfl) ?_
 intro b3_
 refine s_e rfl rfl (e_box rfl rfl rfl rfl) ?_
 intro b4_
 refine sA rfl ?_
 refine sE rfl ?_
 refine r_ordb (l:=[0,1]) rfl (by kernel_rfl) ?_
 refine sV rfl (v_mf rfl rfl rfl) ?_
 refine sA rfl ?_
 refine sQ ?_
 refine c_ret rfl ?_
 exact q_ret (vs:=[.func (.func 98) #[] #[.P b3_,.P b4_]]) rfl (.tmp rfl .nil) [1,0] rfl (by decide) (hX b3_ b4_)
def shape_Level.b0 (k:Nat) (κ_:(List Int)→Option (List Int)) (x35_ x36_:Int) (st_:(List Int)):Option (List Int):=match st_ with | xs43_=>(if xs43_.length<17592186044416 then κ_ (xs43_ ++ [x36_]) else none)
def shape_Level.f (k:Nat) (p0:Int) (p1:Int) (p2:Int) (p3:Int) (p4:Int) (p5:Int) (p6:Int) (l1:List Int) (a2:Int):Option (List Int):=((sw_whole.f p0 p1 p2 p3 p4 p5 p6 l1).bind fun t56_=>(if t56_=true then (if (a2:Int)<0 then some true else some (decide ((a2:Int)≥p3))) else some true):Option Bool).bind fun j24_=>(if j24_=true then some ([]:List Int) else (if okB p0 p1 p2 p3 p4 p5 p6 l1 a2=true then (if 1000≤k then (rng (shape_Level.b0 k) (lvlF p0 p1 p2 p3 p4 p5 p6 l1 a2) (fun xs43_=>some xs43_) ([]:List Int)) else none) else none))
theorem shape_Level_tot0 (k:Nat) {T S C H K V L lev:Int} {l:List Int} (hfu:1000≤k) (hok:okB T S C H K V L l lev=true) (r:List Int):∀ x∈lvlF T S C H K V L l lev,∀ s:List Int,s.length<1000→∃ r',shape_Level.b0 k (fun _=>some r) x.1 x.2 s=some r':=by
 intro x hx s hs
 exact ⟨r,by unfold shape_Level.b0; exact if_pos (by omega)⟩
set_option maxRecDepth 100000 in
set_option maxHeartbeats 4000000 in
theorem shape_Level_own (k:Nat) (p0:Int) (p1:Int) (p2:Int) (p3:Int) (p4:Int) (p5:Int) (p6:Int) (A1:Option Addr) (c1:Nat) (l1:List Int) (a2:Int) (r0:List Int) (h:shape_Level.f k p0 p1 p2 p3 p4 p5 p6 l1 a2=some r0) (w0:World) (Hs:List Nat):Con Tryz.prog 22 #[.agg (cfA p0 p1 p2 p3 p4 p5 p6),.slice A1 l1.length c1,.I a2] w0 Hs [.f (KU A1 c1 l1)] (fun X=>∀ (ro_r0:Ro),ORow 1 (fun x=>[.U x]) ro_r0 r0→X (.slice (OA ro_r0) r0.length (OC ro_r0)) [OE 41 ro_r0]):=by
 refine con_enterM (c:=bodyOf Tryz.f22) (k:=9) Tryz.func22 rfl (m:=37) rfl rfl rfl ?_
 intro X hX _
 have H:=h
 unfold shape_Level.f at H
 clear h
 refine c_seq rfl ?_
 refine r_ordb (l:=[0,1]) rfl (by kernel_rfl) ?_
 refine s_e rfl rfl (e_box rfl rfl rfl rfl) ?_
 intro b2_
 refine sA rfl ?_
 refine sE rfl ?_
 refine r_ordb (l:=[0,1,2,3,4]) rfl (by kernel_rfl) ?_
 refine sV rfl (vLA (lfA p0 p1 p2 p3 p4 p5 p6) 0 Tryz.underlying23 SZ23 rfl) ?_
 refine sM rfl ?_
 refine sV rfl (v_build (places:=#[(0,7),(7,1)]) (cfB p0 p1 p2 p3 p4 p5 p6 A1 l1.length c1) rfl ZR104 Tryz.underlying104 (by kernel_rfl) rfl (by kernel_rfl)) ?_
 refine s_e rfl rfl (e_alloc rfl rfl rfl ZR104) ?_
 intro b4_
 refine s_e rfl rfl (e_stA 0 rfl rfl SZ104 rfl rfl rfl rfl rfl rfl) ?_
 refine sE rfl ?_
 obtain ⟨j24_,e25_,H⟩:=bind_s H
 refine c_join (β:=Unit) (fun _=>True) (fun _=>[(2,.I a2),(6,.slice none 0 0),(7,.P b4_),(26,.bool j24_)]) (fun _=>[.b b4_ (.cells (cfB p0 p1 p2 p3 p4 p5 p6 A1 l1.length c1) 104 (0,0)),.b b2_ (.cells (cfA p0 p1 p2 p3 p4 p5 p6) 23 (0,0)),.f (KU A1 c1 l1)]) rfl (fun _ _=>?_) (fun J_=>?_)
 rcases Bool.eq_false_or_eq_true j24_ with h26_ | h26_
 subst h26_
 replace H:=ite_y rfl H
 refine c_cond1 rfl rfl ?_
 refine c_seq rfl ?_
 refine r_ordb (l:=[0]) rfl (by kernel_rfl) ?_
 refine sA rfl ?_
 refine sQ ?_
 refine c_ret rfl ?_
 refine q_then_ret ?_
 refine q_know (φ:=fun _=>True) (fun _=>trivial) ?_
 have e_:=Option.some.inj H
 subst e_
 exact q_retM (vs:=[.slice none 0 0]) (.inl rfl) rfl (.tmp rfl .nil) [0] rfl (by decide) (hX none ORow.nil)
 subst h26_
 replace H:=ite_n (by decide) H
 refine c_cond0 rfl rfl ?_
 refine kQ rfl ?_
 refine c_seq rfl ?_
 refine r_ordb (l:=[0]) rfl (by kernel_rfl) ?_
 refine s_e rfl rfl (e_alloc rfl rfl rfl ZR24) ?_
 intro b28_
 refine sE rfl ?_
 refine c_seq rfl ?_
 refine r_ordb (l:=[0,1,2]) rfl (by kernel_rfl) ?_
 refine sV rfl (vLA [.I p0,.I p1,.I p2,.I p3,.I p4,.I p5,.I p6,.slice A1 l1.length c1] 1 Tryz.underlying104 SZ104 rfl) ?_
 refine sM rfl ?_
 refine s_e rfl rfl (eC [] #[.agg (cfB p0 p1 p2 p3 p4 p5 p6 A1 l1.length c1),.I a2] Tryz.func60 (by decide) rfl (fun w ht=>level_con p0 p1 p2 p3 p4 p5 p6 A1 l1.length c1 a2 w _)) ?_
 intro b31_ b32_
 refine sQ ?_
 refine c_block rfl ?_
 obtain ⟨n33_,H⟩:=ite_no H
 obtain ⟨n34_,H⟩:=ite_no H
 refine c_knowT (φ:=fun _=>True) (fun _=>trivial) ?_
 obtain ⟨κ_,hκ_,H⟩:=rng_intro H
 refine c_rangeD (N:=(lvlF p0 p1 p2 p3 p4 p5 p6 l1 a2).length) (S:=fun ys=>ys=(lvlF p0 p1 p2 p3 p4 p5 p6 l1 a2).attach) (Sp:=fun pre=>pre <+: (lvlF p0 p1 p2 p3 p4 p5 p6 l1 a2).attach) (fun x:{p:Int × Int // p∈(lvlF p0 p1 p2 p3 p4 p5 p6 l1 a2)}=>#[Value.I x.1.1,Value.U x.1.2]) (gf:=98) (lb:=[.P b31_,.P b32_]) (ps:=#[30,31]) [3,0] [1,2,4,5,6] (fun pre (s_:Ro × (List Int))=>match s_ with | (ro42_,xs43_)=>ORow 1 (fun x=>[.U x]) ro42_ xs43_∧xs43_.length=pre.length∧(pre <+: (lvlF p0 p1 p2 p3 p4 p5 p6 l1 a2).attach→rng (shape_Level.b0 k) ((lvlF p0 p1 p2 p3 p4 p5 p6 l1 a2).drop pre.length) κ_ xs43_=some r0)) (fun _ _ _=>False) (fun (ro42_,xs43_)=>[.b b28_ (.cells #[.slice (OA ro42_) xs43_.length (OC ro42_)] 24 (0,0)),OE 41 ro42_]) (fun x=>[(10,.U x.1.2),(31,.U x.1.2),(30,.I x.1.1)]) (none,([]:List Int)) rfl rfl rfl (fun _=>rfl) (by decide) Tryz.func98 rfl (by decide) rfl rfl (by decide) ?_ ⟨ORow.nil,rfl,fun _=>H⟩ rfl ?_ ?_ ?_ ?_ ?_
 rintro ⟨ro42_,xs43_⟩ e he
 simp only [List.mem_cons,List.not_mem_nil,or_false] at he
 rcases he with rfl | rfl
 exact .inl ⟨_,_,_,rfl⟩
 rcases ro42_ with _ | ⟨g_,cap_,cur_⟩
 exact .inr rfl
 exact .inl ⟨_,_,_,rfl⟩
 intro w ht
 refine lvl_stops _ (by decide) b31_ b32_ _ p0 p1 p2 p3 p4 p5 p6 A1 c1 l1 a2 n33_ w (ht.at_ _ _ (List.mem_of_getElem? (i:=1) rfl)) (ht.at_ _ _ (List.mem_of_getElem? (i:=2) rfl)) ?_ ?_ ((ht.facts _ (List.mem_of_getElem? (i:=6) rfl)).mono ?_)
 exact tri_disj ht (i:=1) rfl (idx:=[3,0]) rfl (by decide)
 exact tri_disj ht (i:=2) rfl (idx:=[3,0]) rfl (by decide)
 exact fun x hx _=>List.mem_append_right _ (pick_ids (idx:=[3,0]) rfl x hx)
 rintro lv_ ⟨⟨x35_,x36_⟩,hx_⟩ a_ W_ K_ hf_ hk_
 refine assign_one (F1:=[(10,.U x36_),(31,.U x36_),(30,.I x35_)] ++ _) (fr_params2 hf_ rfl rfl) hk_ ?_
 refine r_ordb (l:=[0]) rfl (by kernel_rfl) ?_
 refine sA rfl ?_
 refine s_end ?_
 exact q_assigned (fun _ _ h=>h)
 rintro lv_ pre_ ⟨⟨x35_,x36_⟩,hx_⟩ ⟨ro42_,xs43_⟩ W_ hI_ hlen_
 obtain ⟨hr44_,hl_xs43_,hI_⟩:=hI_
 clear H
 obtain ⟨κ2_,r2_,H,hk_,hr_⟩:=rng_step (shape_Level_tot0 k n34_ n33_ r0) pre_ ⟨(x35_,x36_),hx_⟩ xs43_ (by have:=lvl_len n33_; omega) hI_
 unfold shape_Level.b0 at H
 refine c_block rfl ?_
 refine r_ordb (l:=[0,1,2,3,4]) rfl (by kernel_rfl) ?_
 refine sV rfl (vL 0 Tryz.underlying24 rfl) ?_
 refine sM rfl ?_
 refine s_e rfl rfl (e_bslice #[.U x36_] (.U 0) rfl rfl rfl Tryz.underlying24 SZ41 ZR41 (by decide) rfl (by kernel_rfl)) ?_
 intro b50_
 obtain ⟨n51_,H⟩:=ite_no H
 refine s_e rfl rfl (e_appO (enc:=(fun x=>[.U x])) (v:=x36_) (xs:=xs43_) (ro:=ro42_) (z:=(.U 0)) (m:=1) (bytes:=8) (i:=0) (j:=2) rfl rfl rfl rfl rfl rfl Tryz.underlying24 (by kernel_rfl) rfl (by decide) rfl rfl hr44_ rfl rfl rfl rfl (by simp [Value.oneCell']) (by omega) (by simp only [maxLen]; omega)) ?_
 intro ro52_ hr53_ sm54_
 refine s_e rfl rfl (e_st 1 rfl rfl SZ24 rfl rfl rfl rfl (blt_lt rfl)) ?_
 refine s_end ?_
 refine q_block ?_
 exact q_round (ro52_,(xs43_ ++ [x36_])) [1,2] rfl rfl (by decide) ⟨hr53_,by simp only [List.length_append,List.length_singleton]; omega,hk_ _ H⟩
 rintro D55_ ys_ ⟨ro42_,xs43_⟩ hD_ hS_ hI_
 subst hS_
 obtain ⟨hr44_,hl_xs43_,hI_⟩:=hI_
 have H:=(hκ_ _).symm.trans (rng_done hI_)
 refine q_block ?_
 refine q_seq ?_
 refine c_seq rfl ?_
 refine r_ordb (l:=[0,1]) rfl (by kernel_rfl) ?_
 refine sV rfl (vL 1 Tryz.underlying24 rfl) ?_
 refine sA rfl ?_
 refine sQ ?_
 refine c_ret rfl ?_
 have e_:=Option.some.inj H
 subst e_
 refine q_take [0,1,2,3,4,5,6,7] rfl (by decide) ?_
 exact q_retM1 (vs:=[.slice (OA ro42_) xs43_.length (OC ro42_)]) (.inl rfl) rfl (.tmp rfl .nil) [1] rfl (by decide) (hX ro42_ hr44_)
 rintro D55_ c_ pre_ ⟨ro42_,xs43_⟩ hD_ hS_ hI_
 exact hI_.elim
 clear H
 have H:=e25_
 clear e25_
 refine r_ordb (l:=[0,1,2,3,4,5,6,7,8,9,10,11,12]) rfl (by kernel_rfl) ?_
 refine sV rfl (vLA [.I p0,.I p1,.I p2,.I p3,.I p4,.I p5,.I p6,.slice A1 l1.length c1] 0 Tryz.underlying104 SZ104 rfl) ?_
 obtain ⟨t56_,e57_,H⟩:=bind_s H
 refine s_e rfl rfl (eC [2] #[.agg (cfB p0 p1 p2 p3 p4 p5 p6 A1 l1.length c1)] Tryz.func59 (by decide) rfl (fun w ht=>sw_whole_con p0 p1 p2 p3 p4 p5 p6 A1 c1 l1 t56_ e57_ w _)) ?_
 refine sV rfl (v_not rfl rfl) ?_
 refine sM rfl ?_
 rcases Bool.eq_false_or_eq_true (!t56_) with h58_ | h58_
 replace H:=ite_n (not_t (bnot_t h58_)) H
 refine s_splitv (d:=17) (t:=!t56_) rfl (fun _=>?_) (fun h59_=>absurd (h59_.symm.trans h58_) (by decide))
 refine sN rfl ?_
 refine sN rfl ?_
 refine sP rfl ?_
 refine sM rfl ?_
 refine sN rfl ?_
 refine sN rfl ?_
 refine sN rfl ?_
 refine sN rfl ?_
 refine sP rfl ?_
 refine s_end ?_
 have hq_0:=Option.some.inj H
 subst hq_0
 exact q_seq (c_frame (subF_spec (by exact ⟨rfl,rfl,rfl,rfl,trivial⟩)) (c_take [0,1,2] rfl (by decide) (J_ () trivial)))
 replace H:=ite_y (bnot_f h58_) H
 refine s_splitv (d:=17) (t:=!t56_) rfl (fun h60_=>absurd (h60_.symm.trans h58_) (by decide)) (fun _=>?_)
 refine sG rfl (vM rfl) ?_
 refine sG rfl (vR rfl) ?_
 refine sP rfl ?_
 refine sM rfl ?_
 rcases Bool.eq_false_or_eq_true (decide ((a2:Int)<0)) with h61_ | h61_
 replace H:=ite_y (dec_t h61_) H
 refine s_splitv (d:=21) (t:=decide ((a2:Int)<0)) rfl (fun _=>?_) (fun h62_=>absurd (h62_.symm.trans h61_) (by decide))
 refine sN rfl ?_
 refine sN rfl ?_
 refine sN rfl ?_
 refine sN rfl ?_
 refine sP rfl ?_
 refine s_end ?_
 have hq_0:=Option.some.inj H
 subst hq_0
 exact q_seq (c_frame (subF_spec (by exact ⟨rfl,rfl,rfl,rfl,trivial⟩)) (c_take [0,1,2] rfl (by decide) (J_ () trivial)))
 replace H:=ite_n (dec_f h61_) H
 refine s_splitv (d:=21) (t:=decide ((a2:Int)<0)) rfl (fun h63_=>absurd (h63_.symm.trans h61_) (by decide)) (fun _=>?_)
 refine sG rfl (vM rfl) ?_
 refine sG rfl (vF Tryz.underlying23 SZ3 rfl) ?_
 refine sG rfl (vL 1 Tryz.underlying3 rfl) ?_
 refine sG rfl (vR rfl) ?_
 refine sP rfl ?_
 refine s_end ?_
 have hq_0:=Option.some.inj H
 subst hq_0
 exact q_seq (c_frame (subF_spec (by exact ⟨rfl,rfl,rfl,rfl,trivial⟩)) (c_take [0,1,2] rfl (by decide) (J_ () trivial)))
theorem shape_Level_con (k:Nat) (p0:Int) (p1:Int) (p2:Int) (p3:Int) (p4:Int) (p5:Int) (p6:Int) (A1:Option Addr) (c1:Nat) (l1:List Int) (a2:Int) (r0:List Int) (h:shape_Level.f k p0 p1 p2 p3 p4 p5 p6 l1 a2=some r0) (w0:World) (Hs:List Nat):Con Tryz.prog 22 #[.agg (cfA p0 p1 p2 p3 p4 p5 p6),.slice A1 l1.length c1,.I a2] w0 Hs [.f (KU A1 c1 l1)] (fun X=>∀ A_r0 c_r0,X (.slice A_r0 r0.length c_r0) [.f (KU A_r0 c_r0 r0)]) :=
 con_own (D:=Kd.int .u64) (flat_int .u64) (fun A c => .slice A r0.length c) rfl (shape_Level_own k p0 p1 p2 p3 p4 p5 p6 A1 c1 l1 a2 r0 h w0 Hs)
def sw_node.l0:Nat→Int→Int→Int→Int→Int→Int→Int→List Int→Int→Int→Int→Option Bool
 | 0,_,_,_,_,_,_,_,_,_,_,_=>none
 | k+1,p0,p1,p2,p3,p4,p5,p6,l0_7,a1,t5_,x78_=>(if (x78_:Int)<(IntKind.wrap .i64 t5_) then (sw_marked.f p0 p1 p2 p3 p4 p5 p6 l0_7 a1 x78_).bind fun t100_=>(if t100_=true then sw_node.l0 k p0 p1 p2 p3 p4 p5 p6 l0_7 a1 t5_ (IntKind.wrap .i64 (x78_+1)) else some false) else (sw_at.f p0 p1 p2 p3 p4 p5 p6 l0_7 (a1 % 4294967296) 2).bind fun t110_=>(slot_Dead.f t110_).bind fun t112_=>some t112_)
def sw_node.f (k:Nat) (p0:Int) (p1:Int) (p2:Int) (p3:Int) (p4:Int) (p5:Int) (p6:Int) (l0_7:List Int) (a1:Int) (a2:Int):Option Bool:=(sw_at.f p0 p1 p2 p3 p4 p5 p6 l0_7 (a1 % 4294967296) 4).bind fun t5_=>((sw_taken.f p0 p1 p2 p3 p4 p5 p6 l0_7 a1).bind fun t114_=>(if t114_=true then (if (t5_:Int)≤(IntKind.wrap .u64 a2) then some true else some (decide ((t5_:Int) > (IntKind.wrap .u64 p3)))) else some true):Option Bool).bind fun j26_=>(if j26_=true then some false else (sw_marked.f p0 p1 p2 p3 p4 p5 p6 l0_7 a1 a2).bind fun t45_=>(if t45_=true then sw_node.l0 k p0 p1 p2 p3 p4 p5 p6 l0_7 a1 t5_ (IntKind.wrap .i64 (a2+1)) else ((if (a2:Int)=0 then some true else (shape_Level.f k p0 p1 p2 p3 p4 p5 p6 l0_7 (IntKind.wrap .i64 (a2 - 1))).bind fun t63_=>(slices_Contains_uint64_uint64.f k t63_ a1).bind fun t67_=>some t67_):Option Bool).bind fun j58_=>some j58_))
set_option maxRecDepth 100000 in
set_option maxHeartbeats 4000000 in
theorem sw_node_con (k:Nat) (p0:Int) (p1:Int) (p2:Int) (p3:Int) (p4:Int) (p5:Int) (p6:Int) (A0_7:Option Addr) (c0_7:Nat) (l0_7:List Int) (a1:Int) (a2:Int) (r0:Bool) (h:sw_node.f k p0 p1 p2 p3 p4 p5 p6 l0_7 a1 a2=some r0) (w0:World) (Hs:List Nat):Con Tryz.prog 128 #[.agg (cfB p0 p1 p2 p3 p4 p5 p6 A0_7 l0_7.length c0_7),.U a1,.I a2] w0 Hs [.f (KU A0_7 c0_7 l0_7)] (fun X=>X (.bool r0) []):=by
 refine con_enter (c:=bodyOf Tryz.f128) Tryz.func128 rfl (m:=68) rfl rfl rfl ?_
 intro X hX _
 have H:=h
 unfold sw_node.f at H
 clear h
 refine c_seq rfl ?_
 refine r_ordb (l:=[0,1]) rfl (by kernel_rfl) ?_
 refine s_e rfl rfl (e_box rfl rfl rfl rfl) ?_
 intro b2_
 refine sA rfl ?_
 refine sE rfl ?_
 refine r_ordb (l:=[0,1,2]) rfl (by kernel_rfl) ?_
 refine sM rfl ?_
 refine s_e rfl rfl (eC [] #[.U a1] Tryz.func30 (by decide) rfl (fun w ht=>handle_Index_con a1 w _)) ?_
 refine sA rfl ?_
 refine sE rfl ?_
 refine r_ordb (l:=[0,1,2,3]) rfl (by kernel_rfl) ?_
 refine sV rfl (vLA [.I p0,.I p1,.I p2,.I p3,.I p4,.I p5,.I p6,.slice A0_7 l0_7.length c0_7] 0 Tryz.underlying104 SZ104 rfl) ?_
 refine sM rfl ?_
 obtain ⟨t5_,e6_,H⟩:=bind_s H
 refine s_e rfl rfl (eC [1] #[.agg (cfB p0 p1 p2 p3 p4 p5 p6 A0_7 l0_7.length c0_7),.I (a1 % 4294967296),.I 4] Tryz.func78 (by decide) rfl (fun w ht=>sw_at_con p0 p1 p2 p3 p4 p5 p6 A0_7 c0_7 l0_7 (a1 % 4294967296) 4 t5_ e6_ w _)) ?_
 refine sA rfl ?_
 refine sE rfl ?_
 obtain ⟨j26_,e27_,H⟩:=bind_s H
 refine c_join (β:=Unit) (fun _=>True) (fun _=>[(1,.U a1),(2,.I a2),(3,.P b2_),(6,.bool false),(7,.I (a1 % 4294967296)),(8,.U t5_),(32,.bool j26_)]) (fun _=>[.b b2_ (.cells (cfB p0 p1 p2 p3 p4 p5 p6 A0_7 l0_7.length c0_7) 104 (0,0)),.f (KU A0_7 c0_7 l0_7)]) rfl (fun _ _=>?_) (fun J_=>?_)
 rcases Bool.eq_false_or_eq_true j26_ with h28_ | h28_
 subst h28_
 replace H:=ite_y rfl H
 refine c_cond1 rfl rfl ?_
 refine c_seq rfl ?_
 refine r_ordb (l:=[0]) rfl (by kernel_rfl) ?_
 refine sA rfl ?_
 refine sQ ?_
 refine c_ret rfl ?_
 refine q_then_ret ?_
 have e_:=Option.some.inj H
 subst e_
 exact q_ret (vs:=[.bool false]) rfl (.tmp rfl .nil) [] rfl (by decide) (hX)
 subst h28_
 replace H:=ite_n (by decide) H
 refine c_cond0 rfl rfl ?_
 refine kQ rfl ?_
 refine c_seq rfl ?_
 refine c_seq rfl ?_
 refine r_ordb (l:=[0,1,2,3,4]) rfl (by kernel_rfl) ?_
 refine sV rfl (vLA [.I p0,.I p1,.I p2,.I p3,.I p4,.I p5,.I p6,.slice A0_7 l0_7.length c0_7] 0 Tryz.underlying104 SZ104 rfl) ?_
 refine sM rfl ?_
 refine sM rfl ?_
 obtain ⟨t45_,e46_,H⟩:=bind_s H
 refine s_e rfl rfl (eC [1] #[.agg (cfB p0 p1 p2 p3 p4 p5 p6 A0_7 l0_7.length c0_7),.U a1,.I a2] Tryz.func114 (by decide) rfl (fun w ht=>sw_marked_con p0 p1 p2 p3 p4 p5 p6 A0_7 c0_7 l0_7 a1 a2 t45_ e46_ w _)) ?_
 refine sV rfl (v_not rfl rfl) ?_
 refine sQ ?_
 rcases Bool.eq_false_or_eq_true (!t45_) with h47_ | h47_
 replace H:=ite_n (not_t (bnot_t h47_)) H
 refine cT h47_ rfl ?_
 obtain ⟨j58_,e59_,H⟩:=bind_s H
 refine c_join (β:=Unit) (fun _=>True) (fun _=>[(1,.U a1),(2,.I a2),(3,.P b2_),(6,.bool j58_),(7,.I (a1 % 4294967296)),(8,.U t5_)]) (fun _=>[.b b2_ (.cells (cfB p0 p1 p2 p3 p4 p5 p6 A0_7 l0_7.length c0_7) 104 (0,0)),.f (KU A0_7 c0_7 l0_7)]) rfl (fun _ _=>?_) (fun J_=>?_)
 refine c_ret rfl ?_
 refine q_then_ret ?_
 have e_:=Option.some.inj H
 subst e_
 exact q_ret (vs:=[.bool j58_]) rfl (.tmp rfl .nil) [] rfl (by decide) (hX)
 clear H
 have H:=e59_
 clear e59_
 refine r_ordb (l:=[0,1,2,3,4,5,6,7,8,9,10,11,12,13]) rfl (by kernel_rfl) ?_
 refine sM rfl ?_
 refine sR rfl ?_
 refine sM rfl ?_
 rcases Bool.eq_false_or_eq_true ((a2:Int) == 0) with h60_ | h60_
 replace H:=ite_y (ibeq_t h60_) H
 refine s_splitv (d:=40) (t:=(a2:Int) == 0) rfl (fun _=>?_) (fun h61_=>absurd (h61_.symm.trans h60_) (by decide))
 refine sN rfl ?_
 refine sN rfl ?_
 refine sN rfl ?_
 refine sN rfl ?_
 refine sN rfl ?_
 refine sN rfl ?_
 refine sN rfl ?_
 refine sN rfl ?_
 refine sN rfl ?_
 refine sP rfl ?_
 refine sA rfl ?_
 refine s_end ?_
 have hq_0:=Option.some.inj H
 subst hq_0
 exact q_seq (c_frame (subF_spec (by exact ⟨rfl,rfl,rfl,rfl,rfl,rfl,trivial⟩)) (c_take [0,1] rfl (by decide) (J_ () trivial)))
 replace H:=ite_n (ibeq_f h60_) H
 refine s_splitv (d:=40) (t:=(a2:Int) == 0) rfl (fun h62_=>absurd (h62_.symm.trans h60_) (by decide)) (fun _=>?_)
 refine sG rfl (vF Tryz.underlying104 SZ23 rfl) ?_
 refine sG rfl (vLA (lfA p0 p1 p2 p3 p4 p5 p6) 0 Tryz.underlying23 SZ23 rfl) ?_
 refine sG rfl (vF Tryz.underlying104 SZ24 rfl) ?_
 refine sG rfl (vL 0 Tryz.underlying24 rfl) ?_
 refine sG rfl (vM rfl) ?_
 refine sG rfl (vR rfl) ?_
 obtain ⟨t63_,e64_,H⟩:=bind_s H
 refine s_eg rfl rfl (eC [1] #[.agg (cfA p0 p1 p2 p3 p4 p5 p6),.slice A0_7 l0_7.length c0_7,.I (IntKind.wrap .i64 (a2 - 1))] Tryz.func22 (by decide) rfl (fun w ht=>shape_Level_con _ p0 p1 p2 p3 p4 p5 p6 A0_7 c0_7 l0_7 (IntKind.wrap .i64 (a2 - 1)) t63_ e64_ w _)) ?_
 intro A65_ c66_
 refine sG rfl (vM rfl) ?_
 obtain ⟨t67_,e68_,H⟩:=bind_s H
 refine s_eg rfl rfl (eC [0] #[.slice A65_ t63_.length c66_,.U a1] Tryz.func64 (by decide) rfl (fun w ht=>slices_Contains_uint64_uint64_con _ A65_ c66_ t63_ a1 t67_ e68_ w _)) ?_
 refine sP rfl ?_
 refine sA rfl ?_
 refine s_end ?_
 have hq_0:=Option.some.inj H
 subst hq_0
 exact q_seq (c_frame (subF_spec (by exact ⟨rfl,rfl,rfl,rfl,rfl,rfl,trivial⟩)) (c_take [1,2] rfl (by decide) (J_ () trivial)))
 replace H:=ite_y (bnot_f h47_) H
 refine cF h47_ rfl ?_
 refine kQ rfl ?_
 refine c_seq rfl ?_
 refine c_seq rfl ?_
 refine r_ordb (l:=[0,1,2]) rfl (by kernel_rfl) ?_
 refine sM rfl ?_
 refine sR rfl ?_
 refine sA rfl ?_
 refine sQ ?_
 refine c_block rfl ?_
 refine c_loop (σ:=Nat × Int) (fun (k,x78_)=>sw_node.l0 k p0 p1 p2 p3 p4 p5 p6 l0_7 a1 t5_ x78_=some r0) (fun (k,x78_)=>k) (fun (k,x78_)=>[(1,.U a1),(3,.P b2_),(6,.bool false),(7,.I (a1 % 4294967296)),(8,.U t5_),(9,.I x78_)]) (fun (k,x78_)=>[.b b2_ (.cells (cfB p0 p1 p2 p3 p4 p5 p6 A0_7 l0_7.length c0_7) 104 (0,0)),.f (KU A0_7 c0_7 l0_7)]) (k,IntKind.wrap .i64 (a2+1)) [0,1] rfl H (subF_spec ⟨rfl,rfl,rfl,rfl,rfl,rfl,trivial⟩) rfl (by decide) ?_
 rintro ⟨k0_,x78_⟩ hs87_
 clear H
 have H:sw_node.l0 k0_ p0 p1 p2 p3 p4 p5 p6 l0_7 a1 t5_ x78_=some r0:=hs87_
 try clear hs87_
 rcases k0_ with _ | k0_
 exact none_no (show none=_ from H)
 unfold sw_node.l0 at H
 have hko_0:k0_≤k0_:=Nat.le_refl _
 refine c_seq rfl ?_
 refine c_seq rfl ?_
 refine r_ordb (l:=[0,1,2,3]) rfl (by kernel_rfl) ?_
 refine sM rfl ?_
 refine sM rfl ?_
 refine sV rfl (v_conv rfl Tryz.underlying41 Tryz.underlying3 rfl) ?_
 refine sR rfl ?_
 refine sQ ?_
 rcases Bool.eq_false_or_eq_true (decide ((x78_:Int)<(IntKind.wrap .i64 t5_))) with h91_ | h91_
 replace H:=ite_y (dec_t h91_) H
 refine cT h91_ rfl ?_
 refine kQ rfl ?_
 refine c_seq rfl ?_
 refine c_block rfl ?_
 refine c_seq rfl ?_
 refine r_ordb (l:=[0,1,2,3,4]) rfl (by kernel_rfl) ?_
 refine sV rfl (vLA [.I p0,.I p1,.I p2,.I p3,.I p4,.I p5,.I p6,.slice A0_7 l0_7.length c0_7] 0 Tryz.underlying104 SZ104 rfl) ?_
 refine sM rfl ?_
 refine sM rfl ?_
 obtain ⟨t100_,e101_,H⟩:=bind_s H
 refine s_e rfl rfl (eC [1] #[.agg (cfB p0 p1 p2 p3 p4 p5 p6 A0_7 l0_7.length c0_7),.U a1,.I x78_] Tryz.func114 (by decide) rfl (fun w ht=>sw_marked_con p0 p1 p2 p3 p4 p5 p6 A0_7 c0_7 l0_7 a1 x78_ t100_ e101_ w _)) ?_
 refine sV rfl (v_not rfl rfl) ?_
 refine sQ ?_
 rcases Bool.eq_false_or_eq_true (!t100_) with h102_ | h102_
 replace H:=ite_n (not_t (bnot_t h102_)) H
 refine cT h102_ rfl ?_
 refine c_seq rfl ?_
 refine r_ordb (l:=[0]) rfl (by kernel_rfl) ?_
 refine sA rfl ?_
 refine sQ ?_
 refine c_ret rfl ?_
 refine q_block_ret ?_
 refine q_then_ret ?_
 refine q_then_ret ?_
 refine q_block_ret ?_
 refine q_then_ret ?_
 have e_:=Option.some.inj H
 subst e_
 exact q_ret (vs:=[.bool false]) rfl (.tmp rfl .nil) [] rfl (by decide) (hX)
 replace H:=ite_y (bnot_f h102_) H
 refine cF h102_ rfl ?_
 refine c_skip rfl ?_
 refine q_block ?_
 refine q_seq ?_
 refine r_ordb (l:=[0,1,2]) rfl (by kernel_rfl) ?_
 refine sM rfl ?_
 refine sR rfl ?_
 refine sA rfl ?_
 refine s_end ?_
 exact q_again (k0_,IntKind.wrap .i64 (x78_+1)) [0,1] H (Nat.lt_succ_of_le hko_0) (subF_spec ⟨rfl,rfl,rfl,rfl,rfl,rfl,trivial⟩) rfl (by decide)
 replace H:=ite_n (dec_f h91_) H
 refine cF h91_ rfl ?_
 refine c_exit (i:=0) rfl rfl ?_
 refine q_then_exit ?_
 refine q_then_exit ?_
 refine q_block_here rfl ?_
 refine q_seq ?_
 refine c_seq rfl ?_
 refine r_ordb (l:=[0,1,2,3,4]) rfl (by kernel_rfl) ?_
 refine sV rfl (vLA [.I p0,.I p1,.I p2,.I p3,.I p4,.I p5,.I p6,.slice A0_7 l0_7.length c0_7] 0 Tryz.underlying104 SZ104 rfl) ?_
 refine sM rfl ?_
 obtain ⟨t110_,e111_,H⟩:=bind_s H
 refine s_e rfl rfl (eC [1] #[.agg (cfB p0 p1 p2 p3 p4 p5 p6 A0_7 l0_7.length c0_7),.I (a1 % 4294967296),.I 2] Tryz.func78 (by decide) rfl (fun w ht=>sw_at_con p0 p1 p2 p3 p4 p5 p6 A0_7 c0_7 l0_7 (a1 % 4294967296) 2 t110_ e111_ w _)) ?_
 obtain ⟨t112_,e113_,H⟩:=bind_s H
 refine s_e rfl rfl (eC [] #[.U t110_] Tryz.func113 (by decide) rfl (fun w ht=>slot_Dead_con t110_ t112_ e113_ w _)) ?_
 refine sA rfl ?_
 refine sQ ?_
 refine c_ret rfl ?_
 have e_:=Option.some.inj H
 subst e_
 exact q_ret (vs:=[.bool t112_]) rfl (.tmp rfl .nil) [] rfl (by decide) (hX)
 clear H
 have H:=e27_
 clear e27_
 refine r_ordb (l:=[0,1,2,3,4,5,6,7,8,9,10,11,12,13,14,15,16,17]) rfl (by kernel_rfl) ?_
 refine sV rfl (vLA [.I p0,.I p1,.I p2,.I p3,.I p4,.I p5,.I p6,.slice A0_7 l0_7.length c0_7] 0 Tryz.underlying104 SZ104 rfl) ?_
 refine sM rfl ?_
 obtain ⟨t114_,e115_,H⟩:=bind_s H
 refine s_e rfl rfl (eC [1] #[.agg (cfB p0 p1 p2 p3 p4 p5 p6 A0_7 l0_7.length c0_7),.U a1] Tryz.func77 (by decide) rfl (fun w ht=>sw_taken_con p0 p1 p2 p3 p4 p5 p6 A0_7 c0_7 l0_7 a1 t114_ e115_ w _)) ?_
 refine sV rfl (v_not rfl rfl) ?_
 refine sM rfl ?_
 rcases Bool.eq_false_or_eq_true (!t114_) with h116_ | h116_
 replace H:=ite_n (not_t (bnot_t h116_)) H
 refine s_splitv (d:=19) (t:=!t114_) rfl (fun _=>?_) (fun h117_=>absurd (h117_.symm.trans h116_) (by decide))
 refine sN rfl ?_
 refine sN rfl ?_
 refine sN rfl ?_
 refine sN rfl ?_
 refine sP rfl ?_
 refine sM rfl ?_
 refine sN rfl ?_
 refine sN rfl ?_
 refine sN rfl ?_
 refine sN rfl ?_
 refine sN rfl ?_
 refine sN rfl ?_
 refine sP rfl ?_
 refine s_end ?_
 have hq_0:=Option.some.inj H
 subst hq_0
 exact q_seq (c_frame (subF_spec (by exact ⟨rfl,rfl,rfl,rfl,rfl,rfl,rfl,trivial⟩)) (c_take [0,1] rfl (by decide) (J_ () trivial)))
 replace H:=ite_y (bnot_f h116_) H
 refine s_splitv (d:=19) (t:=!t114_) rfl (fun h118_=>absurd (h118_.symm.trans h116_) (by decide)) (fun _=>?_)
 refine sG rfl (vM rfl) ?_
 refine sG rfl (vM rfl) ?_
 refine sG rfl (v_conv rfl Tryz.underlying3 Tryz.underlying41 rfl) ?_
 refine sG rfl (vR rfl) ?_
 refine sP rfl ?_
 refine sM rfl ?_
 rcases Bool.eq_false_or_eq_true (decide ((t5_:Int)≤(IntKind.wrap .u64 a2))) with h119_ | h119_
 replace H:=ite_y (dec_t h119_) H
 refine s_splitv (d:=25) (t:=decide ((t5_:Int)≤(IntKind.wrap .u64 a2))) rfl (fun _=>?_) (fun h120_=>absurd (h120_.symm.trans h119_) (by decide))
 refine sN rfl ?_
 refine sN rfl ?_
 refine sN rfl ?_
 refine sN rfl ?_
 refine sN rfl ?_
 refine sN rfl ?_
 refine sP rfl ?_
 refine s_end ?_
 have hq_0:=Option.some.inj H
 subst hq_0
 exact q_seq (c_frame (subF_spec (by exact ⟨rfl,rfl,rfl,rfl,rfl,rfl,rfl,trivial⟩)) (c_take [0,1] rfl (by decide) (J_ () trivial)))
 replace H:=ite_n (dec_f h119_) H
 refine s_splitv (d:=25) (t:=decide ((t5_:Int)≤(IntKind.wrap .u64 a2))) rfl (fun h121_=>absurd (h121_.symm.trans h119_) (by decide)) (fun _=>?_)
 refine sG rfl (vM rfl) ?_
 refine sG rfl (vF Tryz.underlying104 SZ23 rfl) ?_
 refine sG rfl (vF Tryz.underlying23 SZ3 rfl) ?_
 refine sG rfl (vL 0 Tryz.underlying3 rfl) ?_
 refine sG rfl (v_conv rfl Tryz.underlying3 Tryz.underlying41 rfl) ?_
 refine sG rfl (vR rfl) ?_
 refine sP rfl ?_
 refine s_end ?_
 have hq_0:=Option.some.inj H
 subst hq_0
 exact q_seq (c_frame (subF_spec (by exact ⟨rfl,rfl,rfl,rfl,rfl,rfl,rfl,trivial⟩)) (c_take [0,1] rfl (by decide) (J_ () trivial)))
def sw_right.b0 (k:Nat) (p0:Int) (p1:Int) (p2:Int) (p3:Int) (p4:Int) (p5:Int) (p6:Int) (l0_7:List Int) (a1:Int) (κ_:(Int × Int)→Option Bool) (x29_ x30_:Int) (st_:Int × Int):Option Bool:=match st_ with | (x61_,x62_)=>((if (x29_:Int)=0 then some true else (sw_at.f p0 p1 p2 p3 p4 p5 p6 l0_7 (x30_ % 4294967296) 1).bind fun t133_=>some (decide ((x61_:Int)<t133_))):Option Bool).bind fun j96_=>((if (x29_:Int)≥p2 then some true else (if j96_=true then (sw_node.f k p0 p1 p2 p3 p4 p5 p6 l0_7 x30_ a1).bind fun t130_=>some (!t130_) else some true)):Option Bool).bind fun j117_=>(if j117_=true then some false else (sw_at.f p0 p1 p2 p3 p4 p5 p6 l0_7 (x30_ % 4294967296) 1).bind fun t120_=>(sw_at.f p0 p1 p2 p3 p4 p5 p6 l0_7 (x30_ % 4294967296) (IntKind.wrap .i64 (6+a1))).bind fun t122_=>κ_ (t120_,t122_))
def sw_right.f (k:Nat) (p0:Int) (p1:Int) (p2:Int) (p3:Int) (p4:Int) (p5:Int) (p6:Int) (l0_7:List Int) (a1:Int):Option Bool:=(sw_at.f p0 p1 p2 p3 p4 p5 p6 l0_7 0 (IntKind.wrap .i64 (6+a1))).bind fun t10_=>(handle_Marked.f t10_).bind fun t18_=>(if t18_=true then some false else (if okB p0 p1 p2 p3 p4 p5 p6 l0_7 a1=true then (if 1000≤k then (rng (sw_right.b0 k p0 p1 p2 p3 p4 p5 p6 l0_7 a1) (lvlF p0 p1 p2 p3 p4 p5 p6 l0_7 a1) (fun (x61_,x62_)=>(handle_Valid.f x62_).bind fun t140_=>some (!t140_)) (0,t10_)) else none) else none))
theorem plF_ix (x:Int):plF x % 4294967296=x % 4294967296:=by
 unfold plF handle_Plain.f
 have h:∀ b c:BitVec 64,c.setWidth 32=0#32→(b &&& ~~~c).toNat % 4294967296=b.toNat % 4294967296:=by
  intro b c hc
  have h1:(b &&& ~~~c).setWidth 32=b.setWidth 32:=by
   rw [BitVec.setWidth_and,BitVec.setWidth_not (by decide),hc,show (~~~(0#32):BitVec 32)=BitVec.allOnes 32 from by decide,BitVec.and_allOnes]
  have h2:=congrArg BitVec.toNat h1
  rw [BitVec.toNat_setWidth,BitVec.toNat_setWidth] at h2
  exact h2
 have h1:=h (BitVec.ofInt 64 x) (BitVec.ofInt 64 4611686018427387904) (by decide)
 have h2:((BitVec.ofInt 64 x).toNat:Int)=x % 18446744073709551616:=by
  rw [BitVec.toNat_ofInt]
  have:0≤x % ((2 ^ 64:Nat):Int):=Int.emod_nonneg _ (by decide)
  rw [Int.toNat_of_nonneg this]
  rfl
 have h3:(((BitVec.ofInt 64 x &&& ~~~ BitVec.ofInt 64 4611686018427387904).toNat:Nat):Int) % 4294967296=x % 4294967296:=by omega
 have key:∀ n:Nat,n<18446744073709551616→(n:Int) % 4294967296=x % 4294967296→(some (IntKind.wrap .u64 (n:Int))).getD 0 % 4294967296=x % 4294967296:=fun n hn he=>by
  rw [wu64 (by omega) (by omega)]
  exact he
 exact key _ (BitVec.isLt _) h3
theorem ylF_mem {C:Int} {nm:Int→Bool} {pl nx:Int→Int}:∀ (m:Nat) (j x:Int),0≤j→∀ p∈ylF C nm pl nx m j x,0≤p.1∧p.1≤C∧∃ y,nm y=true∧p.2=pl y
 | 0,_,_,_,p,hp=>by cases hp
 | m+1,j,x,hj,p,hp=>by
  unfold ylF at hp
  split at hp
  ·split at hp
   ·rcases List.mem_cons.1 hp with rfl | hp
    ·exact ⟨hj,by assumption,x,by assumption,rfl⟩
    ·exact ylF_mem m _ _ (by omega) p hp
   ·cases hp
  ·cases hp
theorem lvl_mem {T S C H K V L lev:Int} {l:List Int} {p:Int × Int} (hp:p∈lvlF T S C H K V L l lev):0≤p.1∧p.1≤C∧1≤p.2 % 4294967296∧p.2 % 4294967296≤C:=by
 obtain ⟨h1,h2,y,h3,h4⟩:=ylF_mem _ _ _ (Int.le_refl 0) p hp
 rw [h4,plF_ix]
 exact ⟨h1,h2,names_ix h3⟩
theorem level_rng (k:Nat) (κ:List Int→Option (List Int)):∀ (ys:List (Int × Int)) (xs:List Int),xs.length+ys.length<1000→rng (shape_Level.b0 k) ys κ xs=κ (xs ++ ys.map (·.2))
 | [],xs,_=>by rw [List.map_nil,List.append_nil]; rfl
 | y :: ys,xs,h=>by
  rw [List.length_cons] at h
  have e:rng (shape_Level.b0 k) (y :: ys) κ xs=if xs.length<17592186044416 then rng (shape_Level.b0 k) ys κ (xs ++ [y.2]) else none:=rfl
  rw [e,if_pos (by omega),level_rng k κ ys _ (by rw [List.length_append,List.length_singleton]; omega),List.append_assoc]
  rfl
theorem whole_is (T S C H K V L:Int) (l:List Int):sw_whole.f T S C H K V L l=some (r7 T S C H K V L && decide ((l.length:Int)=lenI T S C H)):=by
 unfold sw_whole.f
 rw [plan_Right_is,plan_Len_is]
 simp only [Option.bind_some]
 by_cases h:r7 T S C H K V L=true
 ·rw [if_pos h,if_pos h,h]
  simp only [Option.bind_some,Bool.true_and]
  rw [Bool.eq_iff_iff.2 (show ((l.length:Int) == lenI T S C H)=true↔decide ((l.length:Int)=lenI T S C H)=true by simp)]
 ·rw [if_neg h]
  rw [Bool.not_eq_true] at h
  rw [h]
  rfl
theorem Level_is {k:Nat} (hk:1000≤k) (T S C H K V L:Int) (l:List Int) (hp:∀ x∈l,0≤x) (lev:Int):shape_Level.f k T S C H K V L l lev=some (if okB T S C H K V L l lev=true then (lvlF T S C H K V L l lev).map (·.2) else []):=by
 unfold shape_Level.f
 rw [whole_is]
 simp only [Option.bind_some]
 by_cases h:okB T S C H K V L l lev=true
 ·obtain ⟨h1,h2,h3,h4,_⟩:=okB_iff.1 h
  have hl:=lvl_len h
  rw [if_pos h,if_pos h,if_pos hk,level_rng k _ _ _ (by simp only [List.length_nil]; omega),r7_iff.2 h1,decide_eq_true h2,Bool.and_self,if_pos rfl,if_neg (by omega),decide_eq_false (by omega)]
  simp
 ·rw [if_neg h,if_neg h]
  by_cases h1:(r7 T S C H K V L && decide ((l.length:Int)=lenI T S C H))=true
  ·rw [if_pos h1]
   by_cases h2:lev<0
   ·rw [if_pos h2]; rfl
   ·rw [if_neg h2]
    have h3:lev≥H:=by
     rw [Bool.and_eq_true,r7_iff,decide_eq_true_eq] at h1
     rw [okB_iff] at h
     have:=h1.1; have:=h1.2
     exact Int.not_lt.1 (fun h4=>h ⟨h1.1,h1.2,by omega,h4,hp⟩)
    rw [decide_eq_true h3]; rfl
  ·rw [if_neg h1]; rfl
theorem index_l0 {l:List Int} (hb:l.length≤1000) (a:Int):∀ (m k i:Nat),l.length=i+m→m<k→∃ r,slices_Index_uint64_uint64.l0 k l a (i:Int)=some r
 | 0,0,i,_,h=>absurd h (by decide)
 | m+1,0,i,_,h=>absurd h (by omega)
 | 0,k+1,i,hl,_=>⟨-1,by rw [slices_Index_uint64_uint64.l0,if_neg (by omega)]⟩
 | m+1,k+1,i,hl,h=>by
  have e2:IntKind.wrap .i64 ((i:Int)+1)=((i+1:Nat):Int):=by rw [wi64 (by omega) (by omega)]; rfl
  rw [slices_Index_uint64_uint64.l0,if_pos (by omega),if_pos (by omega),e2]
  split
  ·exact ⟨_,rfl⟩
  ·exact index_l0 hb a m k (i+1) (by omega) (by omega)
theorem contains_tot {k:Nat} (hk:1000≤k) {l:List Int} (hb:l.length≤100) (a:Int):∃ r,slices_Contains_uint64_uint64.f k l a=some r:=by
 obtain ⟨r,hr⟩:=index_l0 (l:=l) (by omega) a l.length k 0 (by omega) (by omega)
 unfold slices_Contains_uint64_uint64.f slices_Index_uint64_uint64.f
 exact ⟨_,by rw [show ((0:Nat):Int)=0 from rfl] at hr; rw [hr]; rfl⟩
theorem meta_tot (a b:Int):∃ x y,slot_Meta.f a b=some (x,y):=by
 unfold slot_Meta.f slot_word_right.f slot_word_packed.f
 simp only [Option.bind_some]
 generalize ((a == (if (0:Int)<(if (2:Int)<a then 2 else a) then (if (2:Int)<a then 2 else a) else 0)) && (b == (if (0:Int)<(if (1073741823:Int)<b then 1073741823 else b) then (if (1073741823:Int)<b then 1073741823 else b) else 0)))=q
 cases q
 ·exact ⟨_,_,rfl⟩
 ·exact ⟨_,_,rfl⟩
section
variable {T S C H K V L:Int} {l:List Int}
theorem taken_tot (hr:R7 T S C H K V L) (hl:(l.length:Int)=lenI T S C H) {h:Int} (h1:0≤h % 4294967296) (h2:h % 4294967296≤C):∃ r,sw_taken.f T S C H K V L l h=some r:=by
 obtain ⟨x,y,e⟩:=meta_tot 1 (h / 4294967296 % 1073741824)
 have hf:isF C H (h % 4294967296) 0=true:=isF_iff.2 ⟨h1,h2,Int.le_refl _,by have:=hr.h; omega⟩
 unfold sw_taken.f
 rw [e,at_some hr hl hf]
 exact ⟨_,rfl⟩
theorem marked_tot (hr:R7 T S C H K V L) (hl:(l.length:Int)=lenI T S C H) {h lev:Int} (h1:0≤h % 4294967296) (h2:h % 4294967296≤C) (h3:0≤lev) (h4:lev<H):∃ r,sw_marked.f T S C H K V L l h lev=some r:=by
 unfold sw_marked.f handle_Marked.f
 rw [at_eq hr hl (isF_lev hr h1 h2 h3 h4)]
 exact ⟨_,rfl⟩
theorem node_l0 (hr:R7 T S C H K V L) (hl:(l.length:Int)=lenI T S C H) {h:Int} (h1:0≤h % 4294967296) (h2:h % 4294967296≤C) (t:Int) (h0:0≤t) (ht:t≤H):∀ (m k:Nat) (x:Int),0≤x→t - x≤m→m<k→∃ r,sw_node.l0 k T S C H K V L l h t x=some r:=by
 intro m
 have hH:=hr.h
 have hw:IntKind.wrap .i64 t=t:=wi64 (by omega) (by omega)
 have hend:∃ r,((sw_at.f T S C H K V L l (h % 4294967296) 2).bind fun t110_=>(slot_Dead.f t110_).bind fun t112_=>some t112_)=some r:=by
  have hf:isF C H (h % 4294967296) 2=true:=isF_iff.2 ⟨h1,h2,by omega,by omega⟩
  rw [at_some hr hl hf]
  unfold slot_Dead.f
  exact ⟨_,rfl⟩
 induction m with
 | zero =>
  intro k x hx hm hk
  cases k with
  | zero=>omega
  | succ k =>
   rw [sw_node.l0,hw,if_neg (by omega)]
   exact hend
 | succ m ih =>
  intro k x hx hm hk
  cases k with
  | zero=>omega
  | succ k =>
   rw [sw_node.l0,hw]
   by_cases hlt:x<t
   ·rw [if_pos hlt]
    obtain ⟨r,e⟩:=marked_tot hr hl h1 h2 hx (show x<H by omega)
    have e2:IntKind.wrap .i64 (x+1)=x+1:=wi64 (by omega) (by omega)
    rw [e,e2]
    simp only [Option.bind_some]
    split
    ·exact ih k (x+1) (by omega) (by omega) (by omega)
    ·exact ⟨_,rfl⟩
   ·rw [if_neg hlt]
    exact hend
theorem node_tot {k:Nat} (hk:1000≤k) {lev:Int} (hok:okB T S C H K V L l lev=true) {h:Int} (h1:0≤h % 4294967296) (h2:h % 4294967296≤C):∃ r,sw_node.f k T S C H K V L l h lev=some r:=by
 obtain ⟨hr,hl,h3,h4,hp⟩:=okB_iff.1 hok
 have hH:=hr.h
 have hf:isF C H (h % 4294967296) 4=true:=isF_iff.2 ⟨h1,h2,by omega,by omega⟩
 obtain ⟨tk,etk⟩:=taken_tot hr hl h1 h2
 obtain ⟨mk,emk⟩:=marked_tot hr hl h1 h2 h3 h4
 unfold sw_node.f
 rw [at_some hr hl hf,etk,emk,wu64 (n:=lev) (by omega) (by omega),wu64 (n:=H) (by omega) (by omega),wi64 (n:=lev+1) (by omega) (by omega),wi64 (n:=lev - 1) (by omega) (by omega),Level_is hk T S C H K V L l hp]
 simp only [Option.bind_some]
 have hrest:∀ t,0≤t→t≤H→∃ r,(if mk=true then sw_node.l0 k T S C H K V L l h t (lev+1) else ((if lev=0 then some true else (slices_Contains_uint64_uint64.f k (if okB T S C H K V L l (lev - 1)=true then (lvlF T S C H K V L l (lev - 1)).map (·.2) else []) h).bind fun t67_=>some t67_):Option Bool).bind fun j58_=>some j58_)=some r:=by
  intro t ht0 ht
  cases mk with
  | true=>exact node_l0 hr hl h1 h2 t ht0 ht 10 k (lev+1) (by omega) (by omega) (by omega)
  | false =>
   by_cases h0:lev=0
   ·rw [if_neg (by decide),if_pos h0]; exact ⟨_,rfl⟩
   ·rw [if_neg (by decide),if_neg h0]
    have hb:(if okB T S C H K V L l (lev - 1)=true then (lvlF T S C H K V L l (lev - 1)).map (·.2) else []).length≤100:=by
     split
     ·rename_i hk2
      have:=lvl_len hk2
      rw [List.length_map]; omega
     ·simp
    obtain ⟨c,ec⟩:=contains_tot hk hb h
    rw [ec]
    exact ⟨_,rfl⟩
 have hpos:0≤rd l (cellI T S H (h % 4294967296) 4):=by
  unfold rd
  rw [List.getD_eq_getElem?_getD]
  cases e:l[(cellI T S H (h % 4294967296) 4).toNat]? with
  | none=>exact Int.le_refl _
  | some v=>exact hp v (List.mem_of_getElem? e)
 cases tk with
 | false=>exact ⟨false,rfl⟩
 | true =>
  rw [if_pos rfl]
  by_cases ha:rd l (cellI T S H (h % 4294967296) 4)≤lev
  ·rw [if_pos ha]; exact ⟨false,rfl⟩
  ·rw [if_neg ha]
   by_cases hb:rd l (cellI T S H (h % 4294967296) 4) > H
   ·rw [decide_eq_true hb]; exact ⟨false,rfl⟩
   ·rw [decide_eq_false hb]
    exact hrest _ hpos (by omega)
end
theorem sw_right_tot0 (k:Nat) (T S C H K V L:Int) (l:List Int) (lev:Int) (hfu:1000≤k) (hok:okB T S C H K V L l lev=true) (r:Bool):∀ x∈lvlF T S C H K V L l lev,∀ s:Int × Int,True→∃ r',sw_right.b0 k T S C H K V L l lev (fun _=>some r) x.1 x.2 s=some r':=by
 intro x hx s _
 obtain ⟨h1,h2,h3,h4⟩:=lvl_mem hx
 obtain ⟨hr,hl,h5,h6,hp⟩:=okB_iff.1 hok
 have hH:=hr.h
 have hf:isF C H (x.2 % 4294967296) 1=true:=isF_iff.2 ⟨by omega,h4,by omega,by omega⟩
 obtain ⟨q,eq_⟩:=node_tot hfu hok (show 0≤x.2 % 4294967296 by omega) h4
 obtain ⟨s1,s2⟩:=s
 unfold sw_right.b0
 simp only []
 rw [at_some hr hl hf,at_eq hr hl (isF_lev hr (show 0≤x.2 % 4294967296 by omega) h4 h5 h6),eq_]
 simp only [Option.bind_some]
 have hj:∃ j,(if x.1=0 then some true else some (decide (s1<rd l (cellI T S H (x.2 % 4294967296) 1))))=some j:=by split <;> exact ⟨_,rfl⟩
 obtain ⟨j,ej⟩:=hj
 rw [ej]
 simp only [Option.bind_some]
 have hk2:∃ j2,(if x.1≥C then some true else if j=true then some (!q) else some true)=some j2:=by
  split
  ·exact ⟨_,rfl⟩
  ·split <;> exact ⟨_,rfl⟩
 obtain ⟨j2,ej2⟩:=hk2
 rw [ej2]
 simp only [Option.bind_some]
 split <;> exact ⟨_,rfl⟩
set_option maxRecDepth 100000 in
set_option maxHeartbeats 4000000 in
theorem sw_right_con (k:Nat) (p0:Int) (p1:Int) (p2:Int) (p3:Int) (p4:Int) (p5:Int) (p6:Int) (A0_7:Option Addr) (c0_7:Nat) (l0_7:List Int) (a1:Int) (r0:Bool) (h:sw_right.f k p0 p1 p2 p3 p4 p5 p6 l0_7 a1=some r0) (w0:World) (Hs:List Nat):Con Tryz.prog 112 #[.agg (cfB p0 p1 p2 p3 p4 p5 p6 A0_7 l0_7.length c0_7),.I a1] w0 Hs [.f (KU A0_7 c0_7 l0_7)] (fun X=>X (.bool r0) []):=by
 refine con_enterM (c:=bodyOf Tryz.f112) (k:=9) Tryz.func112 rfl (m:=60) rfl rfl rfl ?_
 intro X hX _
 refine c_knowT (φ:=DefOK []) DefOK.nil ?_
 have H:=h
 unfold sw_right.f at H
 clear h
 refine c_seq rfl ?_
 refine r_ordb (l:=[0,1,2]) rfl (by kernel_rfl) ?_
 refine s_e rfl rfl (e_box rfl rfl rfl rfl) ?_
 intro b4_
 refine s_e rfl rfl (e_box rfl rfl rfl rfl) ?_
 intro b5_
 refine s_e rfl rfl (e_alloc rfl rfl rfl ZR4) ?_
 intro b6_
 refine sE rfl ?_
 refine r_ordb (l:=[0,1,2,3,4,5]) rfl (by kernel_rfl) ?_
 refine sV rfl (vLA [.I p0,.I p1,.I p2,.I p3,.I p4,.I p5,.I p6,.slice A0_7 l0_7.length c0_7] 2 Tryz.underlying104 SZ104 rfl) ?_
 refine sV rfl (vL 1 Tryz.underlying3 rfl) ?_
 refine sR rfl ?_
 obtain ⟨t10_,e11_,H⟩:=bind_s H
 refine s_e rfl rfl (eC [4] #[.agg (cfB p0 p1 p2 p3 p4 p5 p6 A0_7 l0_7.length c0_7),.I 0,.I (IntKind.wrap .i64 (6+a1))] Tryz.func78 (by decide) rfl (fun w ht=>sw_at_con p0 p1 p2 p3 p4 p5 p6 A0_7 c0_7 l0_7 0 (IntKind.wrap .i64 (6+a1)) t10_ e11_ w _)) ?_
 refine s_e rfl rfl (e_alloc rfl rfl rfl ZR41) ?_
 intro b12_
 refine s_e rfl rfl (e_st 0 rfl rfl SZ41 rfl rfl rfl rfl (blt_lt rfl)) ?_
 refine sE rfl ?_
 refine c_seq rfl ?_
 refine r_ordb (l:=[0,1]) rfl (by kernel_rfl) ?_
 refine sV rfl (vL 0 Tryz.underlying41 rfl) ?_
 obtain ⟨t18_,e19_,H⟩:=bind_s H
 refine s_e rfl rfl (eC [] #[.U t10_] Tryz.func76 (by decide) rfl (fun w ht=>handle_Marked_con t10_ t18_ e19_ w _)) ?_
 refine sQ ?_
 rcases Bool.eq_false_or_eq_true t18_ with h20_ | h20_
 subst h20_
 replace H:=ite_y rfl H
 refine c_cond1 rfl rfl ?_
 refine c_seq rfl ?_
 refine r_ordb (l:=[0]) rfl (by kernel_rfl) ?_
 refine s_e rfl rfl (e_st 1 rfl rfl SZ4 rfl rfl rfl rfl (blt_lt rfl)) ?_
 refine sQ ?_
 refine c_ret rfl ?_
 refine q_then_ret ?_
 have e_:=Option.some.inj H
 subst e_
 exact q_retD (Ds:=[]) 4 rfl List.nodup_nil (fun _ h=>(by cases h)) [1] rfl (by decide) (cellsB.cons cellsB.nil) (.inl rfl) rfl (vs:=[.bool false]) (.cell 0 rfl Tryz.underlying4 rfl rfl rfl .nil) (hX)
 subst h20_
 replace H:=ite_n (by decide) H
 refine c_cond0 rfl rfl ?_
 refine kQ rfl ?_
 refine c_seq rfl ?_
 refine r_ordb (l:=[0]) rfl (by kernel_rfl) ?_
 refine s_e rfl rfl (e_alloc rfl rfl rfl ZR41) ?_
 intro b22_
 refine sE rfl ?_
 refine c_seq rfl ?_
 refine r_ordb (l:=[0,1,2]) rfl (by kernel_rfl) ?_
 refine sV rfl (vLA [.I p0,.I p1,.I p2,.I p3,.I p4,.I p5,.I p6,.slice A0_7 l0_7.length c0_7] 4 Tryz.underlying104 SZ104 rfl) ?_
 refine sV rfl (vL 3 Tryz.underlying3 rfl) ?_
 refine s_e rfl rfl (eC [] #[.agg (cfB p0 p1 p2 p3 p4 p5 p6 A0_7 l0_7.length c0_7),.I a1] Tryz.func60 (by decide) rfl (fun w ht=>level_con p0 p1 p2 p3 p4 p5 p6 A0_7 l0_7.length c0_7 a1 w _)) ?_
 intro b25_ b26_
 refine sQ ?_
 refine c_block rfl ?_
 obtain ⟨n27_,H⟩:=ite_no H
 obtain ⟨n28_,H⟩:=ite_no H
 obtain ⟨κ_,hκ_,H⟩:=rng_intro H
 refine c_rangeD (N:=(lvlF p0 p1 p2 p3 p4 p5 p6 l0_7 a1).length) (S:=fun ys=>ys=(lvlF p0 p1 p2 p3 p4 p5 p6 l0_7 a1).attach) (Sp:=fun pre=>pre <+: (lvlF p0 p1 p2 p3 p4 p5 p6 l0_7 a1).attach) (fun x:{p:Int × Int // p∈(lvlF p0 p1 p2 p3 p4 p5 p6 l0_7 a1)}=>#[Value.I x.1.1,Value.U x.1.2]) (gf:=98) (lb:=[.P b25_,.P b26_]) (ps:=#[20,21]) [2,3,4] [0,1,5,6,7,8] (fun pre (s_:Int × Int)=>match s_ with | (x61_,x62_)=>(pre <+: (lvlF p0 p1 p2 p3 p4 p5 p6 l0_7 a1).attach→rng (sw_right.b0 k p0 p1 p2 p3 p4 p5 p6 l0_7 a1) ((lvlF p0 p1 p2 p3 p4 p5 p6 l0_7 a1).drop pre.length) κ_ (x61_,x62_)=some r0)) (fun pre c_ (s_:Int × Int)=>match s_ with | (x61_,x62_)=>c_ = .ret∧(pre <+: (lvlF p0 p1 p2 p3 p4 p5 p6 l0_7 a1).attach→false=r0)) (fun (x61_,x62_)=>[.b b22_ (.cells #[.U x61_] 41 (0,0)),.b b12_ (.cells #[.U x62_] 41 (0,0)),.b b6_ (.cells #[.bool false] 4 (0,0))]) (fun x=>[(8,.U x.1.2),(7,.I x.1.1),(21,.U x.1.2),(20,.I x.1.1)]) (0,t10_) rfl rfl rfl (fun _=>rfl) (by decide) Tryz.func98 rfl (by decide) rfl rfl (by decide) ?_ (fun _=>H) rfl ?_ ?_ ?_ ?_ ?_
 rintro ⟨x61_,x62_⟩ e he
 simp only [List.mem_cons,List.not_mem_nil,or_false] at he
 rcases he with rfl | rfl | rfl
 exact .inl ⟨_,_,_,rfl⟩
 exact .inl ⟨_,_,_,rfl⟩
 exact .inl ⟨_,_,_,rfl⟩
 intro w ht
 refine lvl_stops _ (by decide) b25_ b26_ _ p0 p1 p2 p3 p4 p5 p6 A0_7 c0_7 l0_7 a1 n27_ w (ht.at_ _ _ (List.mem_of_getElem? (i:=0) rfl)) (ht.at_ _ _ (List.mem_of_getElem? (i:=1) rfl)) ?_ ?_ ((ht.facts _ (List.mem_of_getElem? (i:=8) rfl)).mono ?_)
 exact tri_disj ht (i:=0) rfl (idx:=[2,3,4]) rfl (by decide)
 exact tri_disj ht (i:=1) rfl (idx:=[2,3,4]) rfl (by decide)
 exact fun x hx _=>List.mem_append_right _ (pick_ids (idx:=[2,3,4]) rfl x hx)
 rintro lv_ ⟨⟨x29_,x30_⟩,hx_⟩ a_ W_ K_ hf_ hk_
 refine assign_one (F1:=[(8,.U x30_),(7,.I x29_),(21,.U x30_),(20,.I x29_)] ++ _) (fr_params2 hf_ rfl rfl) hk_ ?_
 refine c_seq rfl ?_
 refine r_ordb (l:=[0]) rfl (by kernel_rfl) ?_
 refine sA rfl ?_
 refine sQ ?_
 refine r_ordb (l:=[0]) rfl (by kernel_rfl) ?_
 refine sA rfl ?_
 refine s_end ?_
 exact q_assigned (fun _ _ h=>h)
 rintro lv_ pre_ ⟨⟨x29_,x30_⟩,hx_⟩ ⟨x61_,x62_⟩ W_ hI_ hlen_
 clear H
 obtain ⟨κ2_,r2_,H,hk_,hr_⟩:=rng_step (sw_right_tot0 k p0 p1 p2 p3 p4 p5 p6 l0_7 a1 n28_ n27_ r0) pre_ ⟨(x29_,x30_),hx_⟩ (x61_,x62_) trivial hI_
 unfold sw_right.b0 at H
 refine c_block rfl ?_
 refine c_seq rfl ?_
 refine r_ordb (l:=[0,1,2]) rfl (by kernel_rfl) ?_
 refine sM rfl ?_
 refine s_e rfl rfl (eC [] #[.U x30_] Tryz.func30 (by decide) rfl (fun w ht=>handle_Index_con x30_ w _)) ?_
 refine sA rfl ?_
 refine sQ ?_
 obtain ⟨j96_,e97_,H⟩:=bind_s H
 refine c_join (β:=Unit) (fun _=>True) (fun _=>[(2,.P b4_),(3,.P b5_),(4,.P b6_),(5,.P b12_),(6,.P b22_),(7,.I x29_),(8,.U x30_),(9,.I (x30_ % 4294967296)),(10,.bool j96_)]) (fun _=>[.b b22_ (.cells #[.U x61_] 41 (0,0)),.b b12_ (.cells #[.U x62_] 41 (0,0)),.b b6_ (.cells #[.bool false] 4 (0,0)),.f (fun w=>w.heap[b25_]?=some (.cells (cfB p0 p1 p2 p3 p4 p5 p6 A0_7 l0_7.length c0_7) 104 (0,0))),.f (fun w=>w.heap[b26_]?=some (.cells #[.I a1] 3 (0,0))),.f (fun w=>w.heap[b5_]?=some (.cells #[.I a1] 3 (0,0))),.f (fun w=>w.heap[b4_]?=some (.cells (cfB p0 p1 p2 p3 p4 p5 p6 A0_7 l0_7.length c0_7) 104 (0,0))),.f (DefOK []),.f (KU A0_7 c0_7 l0_7)]) rfl (fun _ _=>?_) (fun J_=>?_)
 refine c_seq rfl ?_
 obtain ⟨j117_,e118_,H⟩:=bind_s H
 refine c_join (β:=Unit) (fun _=>True) (fun _=>[(2,.P b4_),(3,.P b5_),(4,.P b6_),(5,.P b12_),(6,.P b22_),(9,.I (x30_ % 4294967296)),(48,.bool j117_)]) (fun _=>[.b b22_ (.cells #[.U x61_] 41 (0,0)),.b b12_ (.cells #[.U x62_] 41 (0,0)),.b b6_ (.cells #[.bool false] 4 (0,0)),.f (fun w=>w.heap[b25_]?=some (.cells (cfB p0 p1 p2 p3 p4 p5 p6 A0_7 l0_7.length c0_7) 104 (0,0))),.f (fun w=>w.heap[b26_]?=some (.cells #[.I a1] 3 (0,0))),.f (fun w=>w.heap[b5_]?=some (.cells #[.I a1] 3 (0,0))),.f (fun w=>w.heap[b4_]?=some (.cells (cfB p0 p1 p2 p3 p4 p5 p6 A0_7 l0_7.length c0_7) 104 (0,0))),.f (DefOK []),.f (KU A0_7 c0_7 l0_7)]) rfl (fun _ _=>?_) (fun J_=>?_)
 rcases Bool.eq_false_or_eq_true j117_ with h119_ | h119_
 subst h119_
 replace H:=ite_y rfl H
 refine c_cond1 rfl rfl ?_
 refine c_seq rfl ?_
 refine r_ordb (l:=[0]) rfl (by kernel_rfl) ?_
 refine s_e rfl rfl (e_st 2 rfl rfl SZ4 rfl rfl rfl rfl (blt_lt rfl)) ?_
 refine sQ ?_
 refine c_ret rfl ?_
 refine q_then_ret ?_
 refine q_block_ret ?_
 exact q_round_ret (x61_,x62_) [0,1,2] rfl rfl (by decide) ⟨rfl,fun h=>(Option.some.inj H).trans (hr_ h)⟩
 subst h119_
 replace H:=ite_n (by decide) H
 refine c_cond0 rfl rfl ?_
 refine kQ rfl ?_
 obtain ⟨t120_,e121_,H⟩:=bind_s H
 obtain ⟨t122_,e123_,H⟩:=bind_s H
 refine r_any [.b b6_ (.cells #[.bool false] 4 (0,0)),.f (fun w=>w.heap[b25_]?=some (.cells (cfB p0 p1 p2 p3 p4 p5 p6 A0_7 l0_7.length c0_7) 104 (0,0))),.f (fun w=>w.heap[b26_]?=some (.cells #[.I a1] 3 (0,0))),.f (fun w=>w.heap[b5_]?=some (.cells #[.I a1] 3 (0,0))),.f (fun w=>w.heap[b4_]?=some (.cells (cfB p0 p1 p2 p3 p4 p5 p6 A0_7 l0_7.length c0_7) 104 (0,0))),.f (DefOK []),.f (KU A0_7 c0_7 l0_7)] (by kernel_rfl) rfl (by kernel_rfl) (mem_pick (idx:=[2,3,4,5,6,7,8]) rfl) ?_
 refine aV 0 rfl (by kernel_rfl) (v_ldAr [.I p0,.I p1,.I p2,.I p3,.I p4,.I p5,.I p6,.slice A0_7 l0_7.length c0_7] 4 rfl Tryz.underlying104 rfl SZ104 rfl rfl rfl rfl) ?_
 refine aV 1 rfl (by kernel_rfl) (vM rfl) ?_
 refine aV 3 rfl (by kernel_rfl) (v_ldAr [.I p0,.I p1,.I p2,.I p3,.I p4,.I p5,.I p6,.slice A0_7 l0_7.length c0_7] 4 rfl Tryz.underlying104 rfl SZ104 rfl rfl rfl rfl) ?_
 refine aV 4 rfl (by kernel_rfl) (vM rfl) ?_
 refine aV 5 rfl (by kernel_rfl) (v_ldr 3 rfl Tryz.underlying3 rfl rfl rfl rfl) ?_
 refine aV 6 rfl (by kernel_rfl) (vR rfl) ?_
 refine a_1 (i:=2) (by kernel_rfl) ?_
 refine i_e rfl rfl (eC [8] #[.agg (cfB p0 p1 p2 p3 p4 p5 p6 A0_7 l0_7.length c0_7),.I (x30_ % 4294967296),.I 1] Tryz.func78 (by decide) rfl (fun w ht=>sw_at_con p0 p1 p2 p3 p4 p5 p6 A0_7 c0_7 l0_7 (x30_ % 4294967296) 1 t120_ e121_ w _)) ?_
 refine ⟨(mem_pick (idx:=[2,3,4,5,6,7,8]) rfl),?_⟩
 refine a_1 (i:=7) (by kernel_rfl) ?_
 refine i_e rfl rfl (eC [8] #[.agg (cfB p0 p1 p2 p3 p4 p5 p6 A0_7 l0_7.length c0_7),.I (x30_ % 4294967296),.I (IntKind.wrap .i64 (6+a1))] Tryz.func78 (by decide) rfl (fun w ht=>sw_at_con p0 p1 p2 p3 p4 p5 p6 A0_7 c0_7 l0_7 (x30_ % 4294967296) (IntKind.wrap .i64 (6+a1)) t122_ e123_ w _)) ?_
 refine ⟨(mem_pick (idx:=[2,3,4,5,6,7,8]) rfl),?_⟩
 refine a_1 (i:=8) (by kernel_rfl) ?_
 refine i_e rfl rfl (e_st 0 rfl rfl SZ41 rfl rfl rfl rfl (blt_lt rfl)) ?_
 refine ⟨(mem_pick (idx:=[2,3,4,5,6,7,8]) rfl),?_⟩
 refine a_1 (i:=9) (by kernel_rfl) ?_
 refine i_e rfl rfl (e_st 1 rfl rfl SZ41 rfl rfl rfl rfl (blt_lt rfl)) ?_
 refine ⟨(mem_pick (idx:=[2,3,4,5,6,7,8]) rfl),?_⟩
 refine a_end (by kernel_rfl) ?_
 refine q_block ?_
 exact q_round (t120_,t122_) [0,1,2] rfl rfl (by decide) (hk_ _ H)
 clear H
 have H:=e118_
 clear e118_
 refine r_ordb (l:=[0,1,2,3,4,5,6,7,8,9,10,11,12,13,14,15]) rfl (by kernel_rfl) ?_
 refine sM rfl ?_
 refine sV rfl (vF Tryz.underlying104 SZ23 rfl) ?_
 refine sV rfl (vF Tryz.underlying23 SZ3 rfl) ?_
 refine sV rfl (v_ldr 6 rfl Tryz.underlying3 rfl rfl rfl rfl) ?_
 refine sR rfl ?_
 refine sM rfl ?_
 rcases Bool.eq_false_or_eq_true (decide ((x29_:Int)≥p2)) with h124_ | h124_
 replace H:=ite_y (dec_t h124_) H
 refine s_splitv (d:=38) (t:=decide ((x29_:Int)≥p2)) rfl (fun _=>?_) (fun h125_=>absurd (h125_.symm.trans h124_) (by decide))
 refine sN rfl ?_
 refine sN rfl ?_
 refine sP rfl ?_
 refine sM rfl ?_
 refine sN rfl ?_
 refine sN rfl ?_
 refine sN rfl ?_
 refine sN rfl ?_
 refine sN rfl ?_
 refine sP rfl ?_
 refine s_end ?_
 have hq_0:=Option.some.inj H
 subst hq_0
 exact q_seq (c_frame (subF_spec (by exact ⟨rfl,rfl,rfl,rfl,rfl,rfl,rfl,trivial⟩)) (c_take [0,1,2,3,4,5,6,7,8] rfl (by decide) (J_ () trivial)))
 replace H:=ite_n (dec_f h124_) H
 refine s_splitv (d:=38) (t:=decide ((x29_:Int)≥p2)) rfl (fun h126_=>absurd (h126_.symm.trans h124_) (by decide)) (fun _=>?_)
 refine sG rfl (vM rfl) ?_
 refine sG rfl (v_not rfl rfl) ?_
 refine sP rfl ?_
 refine sM rfl ?_
 rcases Bool.eq_false_or_eq_true (!j96_) with h127_ | h127_
 replace H:=ite_n (not_t (bnot_t h127_)) H
 refine s_splitv (d:=42) (t:=!j96_) rfl (fun _=>?_) (fun h128_=>absurd (h128_.symm.trans h127_) (by decide))
 refine sN rfl ?_
 refine sN rfl ?_
 refine sN rfl ?_
 refine sN rfl ?_
 refine sN rfl ?_
 refine sP rfl ?_
 refine s_end ?_
 have hq_0:=Option.some.inj H
 subst hq_0
 exact q_seq (c_frame (subF_spec (by exact ⟨rfl,rfl,rfl,rfl,rfl,rfl,rfl,trivial⟩)) (c_take [0,1,2,3,4,5,6,7,8] rfl (by decide) (J_ () trivial)))
 replace H:=ite_y (bnot_f h127_) H
 refine s_splitv (d:=42) (t:=!j96_) rfl (fun h129_=>absurd (h129_.symm.trans h127_) (by decide)) (fun _=>?_)
 refine sG rfl (v_ldAr [.I p0,.I p1,.I p2,.I p3,.I p4,.I p5,.I p6,.slice A0_7 l0_7.length c0_7] 6 rfl Tryz.underlying104 rfl SZ104 rfl rfl rfl rfl) ?_
 refine sG rfl (vM rfl) ?_
 refine sG rfl (v_ldr 5 rfl Tryz.underlying3 rfl rfl rfl rfl) ?_
 obtain ⟨t130_,e131_,H⟩:=bind_s H
 refine s_eg rfl rfl (eC [8] #[.agg (cfB p0 p1 p2 p3 p4 p5 p6 A0_7 l0_7.length c0_7),.U x30_,.I a1] Tryz.func128 (by decide) rfl (fun w ht=>sw_node_con _ p0 p1 p2 p3 p4 p5 p6 A0_7 c0_7 l0_7 x30_ a1 t130_ e131_ w _)) ?_
 refine sG rfl (v_not rfl rfl) ?_
 refine sP rfl ?_
 refine s_end ?_
 have hq_0:=Option.some.inj H
 subst hq_0
 exact q_seq (c_frame (subF_spec (by exact ⟨rfl,rfl,rfl,rfl,rfl,rfl,rfl,trivial⟩)) (c_take [0,1,2,3,4,5,6,7,8] rfl (by decide) (J_ () trivial)))
 clear H
 have H:=e97_
 clear e97_
 rcases Bool.eq_false_or_eq_true ((x29_:Int) == 0) with h132_ | h132_
 replace H:=ite_y (ibeq_t h132_) H
 refine r_any [.b b22_ (.cells #[.U x61_] 41 (0,0)),.b b12_ (.cells #[.U x62_] 41 (0,0)),.b b6_ (.cells #[.bool false] 4 (0,0)),.f (fun w=>w.heap[b25_]?=some (.cells (cfB p0 p1 p2 p3 p4 p5 p6 A0_7 l0_7.length c0_7) 104 (0,0))),.f (fun w=>w.heap[b26_]?=some (.cells #[.I a1] 3 (0,0))),.f (fun w=>w.heap[b5_]?=some (.cells #[.I a1] 3 (0,0))),.f (fun w=>w.heap[b4_]?=some (.cells (cfB p0 p1 p2 p3 p4 p5 p6 A0_7 l0_7.length c0_7) 104 (0,0))),.f (DefOK []),.f (KU A0_7 c0_7 l0_7)] (by kernel_rfl) rfl (by kernel_rfl) (mem_pick (idx:=[0,1,2,3,4,5,6,7,8]) rfl) ?_
 refine aV 0 rfl (by kernel_rfl) (vM rfl) ?_
 refine aV 1 rfl (by kernel_rfl) (OpV.cast (v := .bool true) (vR rfl) (congrArg Value.bool h132_)) ?_
 refine aV 2 rfl (by kernel_rfl) (vM rfl) ?_
 refine aN 3 rfl (by kernel_rfl) ?_
 refine aN 4 rfl (by kernel_rfl) ?_
 refine aN 5 rfl (by kernel_rfl) ?_
 refine aN 6 rfl (by kernel_rfl) ?_
 refine aN 7 rfl (by kernel_rfl) ?_
 refine aV 8 rfl (by kernel_rfl) (vP rfl) ?_
 refine aV 9 rfl (by kernel_rfl) (vA rfl) ?_
 refine a_end (by kernel_rfl) ?_
 have hq_0:=Option.some.inj H
 subst hq_0
 exact q_seq (c_frame (subF_spec (by exact ⟨rfl,rfl,rfl,rfl,rfl,rfl,rfl,rfl,rfl,trivial⟩)) (c_take [0,1,2,3,4,5,6,7,8] rfl (by decide) (J_ () trivial)))
 replace H:=ite_n (ibeq_f h132_) H
 obtain ⟨t133_,e134_,H⟩:=bind_s H
 refine r_any [.b b22_ (.cells #[.U x61_] 41 (0,0)),.b b12_ (.cells #[.U x62_] 41 (0,0)),.b b6_ (.cells #[.bool false] 4 (0,0)),.f (fun w=>w.heap[b25_]?=some (.cells (cfB p0 p1 p2 p3 p4 p5 p6 A0_7 l0_7.length c0_7) 104 (0,0))),.f (fun w=>w.heap[b26_]?=some (.cells #[.I a1] 3 (0,0))),.f (fun w=>w.heap[b5_]?=some (.cells #[.I a1] 3 (0,0))),.f (fun w=>w.heap[b4_]?=some (.cells (cfB p0 p1 p2 p3 p4 p5 p6 A0_7 l0_7.length c0_7) 104 (0,0))),.f (DefOK []),.f (KU A0_7 c0_7 l0_7)] (by kernel_rfl) rfl (by kernel_rfl) (mem_pick (idx:=[0,1,2,3,4,5,6,7,8]) rfl) ?_
 refine aV 0 rfl (by kernel_rfl) (vM rfl) ?_
 refine aV 1 rfl (by kernel_rfl) (OpV.cast (v := .bool false) (vR rfl) (congrArg Value.bool h132_)) ?_
 refine aV 2 rfl (by kernel_rfl) (vM rfl) ?_
 refine aV 3 rfl (by kernel_rfl) (vL 0 Tryz.underlying41 rfl) ?_
 refine aV 4 rfl (by kernel_rfl) (v_ldAr [.I p0,.I p1,.I p2,.I p3,.I p4,.I p5,.I p6,.slice A0_7 l0_7.length c0_7] 6 rfl Tryz.underlying104 rfl SZ104 rfl rfl rfl rfl) ?_
 refine aV 5 rfl (by kernel_rfl) (vM rfl) ?_
 refine a_1 (i:=6) (by kernel_rfl) ?_
 refine i_e rfl rfl (eC [8] #[.agg (cfB p0 p1 p2 p3 p4 p5 p6 A0_7 l0_7.length c0_7),.I (x30_ % 4294967296),.I 1] Tryz.func78 (by decide) rfl (fun w ht=>sw_at_con p0 p1 p2 p3 p4 p5 p6 A0_7 c0_7 l0_7 (x30_ % 4294967296) 1 t133_ e134_ w _)) ?_
 refine ⟨(mem_pick (idx:=[0,1,2,3,4,5,6,7,8]) rfl),?_⟩
 refine aV 7 rfl (by kernel_rfl) (vR rfl) ?_
 refine aV 8 rfl (by kernel_rfl) (vP rfl) ?_
 refine aV 9 rfl (by kernel_rfl) (vA rfl) ?_
 refine a_end (by kernel_rfl) ?_
 have hq_0:=Option.some.inj H
 subst hq_0
 exact q_seq (c_frame (subF_spec (by exact ⟨rfl,rfl,rfl,rfl,rfl,rfl,rfl,rfl,rfl,trivial⟩)) (c_take [0,1,2,3,4,5,6,7,8] rfl (by decide) (J_ () trivial)))
 rintro D135_ ys_ ⟨x61_,x62_⟩ hD_ hS_ hI_
 subst hS_
 have H:=(hκ_ _).symm.trans (rng_done hI_)
 obtain ⟨hndD135_,hgeD135_⟩:=fresh_D 7 rfl hD_ List.nodup_nil (fun _ h=>(by cases h))
 refine q_give [0,1,2,3,4,5,6,7,8,9] rfl (by decide) (by simp [ids,Ent.id?]) (fun w h=>h) ?_
 refine q_both 0 8 rfl rfl ?_
 refine q_weak 0 rfl (fun w h=>DefOK.cons h) ?_
 refine q_block ?_
 refine q_seq ?_
 refine c_seq rfl ?_
 refine r_ordb (l:=[0,1,2,3]) rfl (by kernel_rfl) ?_
 refine sV rfl (vL 4 Tryz.underlying41 rfl) ?_
 obtain ⟨t140_,e141_,H⟩:=bind_s H
 refine s_e rfl rfl (eC [] #[.U x62_] Tryz.func115 (by decide) rfl (fun w ht=>handle_Valid_con x62_ t140_ e141_ w _)) ?_
 refine sV rfl (v_not rfl rfl) ?_
 refine s_e rfl rfl (e_st 5 rfl rfl SZ4 rfl rfl rfl rfl (blt_lt rfl)) ?_
 refine sQ ?_
 refine c_ret rfl ?_
 have e_:=Option.some.inj H
 subst e_
 exact q_retD (Ds:=(D135_ :: [])) 0 rfl hndD135_ hgeD135_ [5] rfl (by decide) (cellsB.cons cellsB.nil) (.inl rfl) rfl (vs:=[.bool (!t140_)]) (.cell 0 rfl Tryz.underlying4 rfl rfl rfl .nil) (hX)
 rintro D135_ c_ pre_ ⟨x61_,x62_⟩ hD_ hS_ hI_
 obtain ⟨rfl,hres_⟩:=hI_
 have hres_:=hres_ hS_
 refine c_ret rfl ?_
 obtain ⟨hndD135_,hgeD135_⟩:=fresh_D 7 rfl hD_ List.nodup_nil (fun _ h=>(by cases h))
 refine q_give [0,1,2,3,4,5,6,7,8,9] rfl (by decide) (by simp [ids,Ent.id?]) (fun w h=>h) ?_
 refine q_both 0 8 rfl rfl ?_
 refine q_weak 0 rfl (fun w h=>DefOK.cons h) ?_
 refine q_block_ret ?_
 refine q_then_ret ?_
 subst hres_
 exact q_retD (Ds:=(D135_ :: [])) 0 rfl hndD135_ hgeD135_ [5] rfl (by decide) (cellsB.cons cellsB.nil) (.inl rfl) rfl (vs:=[.bool false]) (.cell 0 rfl Tryz.underlying4 rfl rfl rfl .nil) (hX)
end Go.Eng
