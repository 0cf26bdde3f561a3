/-
Own text, put together by an own program (shake.py) out of this claim's texts: what its theorem needs of them.
-/
import Derived.Test.YtgbcnokeaaabfaaGreatA7
namespace Go.Eng
open Go.Proofs Go.RowKit Go.Proofs.YtgbcnokeaaabfaaGreatW.PrintWords
set_option linter.unusedVariables false
set_option linter.unusedSimpArgs false
def sr04_Reserved.f (p0:Int) (p1:Int) (p2:Int) (p3:Int) (p4:Int) (p5:Int) (p6:Int) (a1:Int) (a2:Int):Option Int:=((sr04_Right.f p0 p1 p2 p3 p4 p5 p6).bind fun t37_=>(if t37_=true then (if (a1:Int)<0 then some true else (if (a1:Int)≥p0 then some true else (if (a2:Int)<0 then some true else some (decide ((a2:Int)≥p1))))) else some true):Option Bool).bind fun j34_=>(if j34_=true then some (-1) else some (IntKind.wrap .i64 ((IntKind.wrap .i64 (1+(IntKind.wrap .i64 (a1 * p1))))+a2)))
set_option maxRecDepth 100000 in
set_option maxHeartbeats 4000000 in
theorem sr04_Reserved_con (p0:Int) (p1:Int) (p2:Int) (p3:Int) (p4:Int) (p5:Int) (p6:Int) (a1:Int) (a2:Int) (r0:Int) (h:sr04_Reserved.f p0 p1 p2 p3 p4 p5 p6 a1 a2=some r0) (w0:World) (Hs:List Nat):Con Tryz.prog 43 #[.agg (cfA p0 p1 p2 p3 p4 p5 p6),.I a1,.I a2] w0 Hs [] (fun X=>X (.I r0) []):=by
 refine con_enter (c:=bodyOf Tryz.f43) Tryz.func43 rfl (m:=37) rfl rfl rfl ?_
 intro X hX _
 have H:=h
 unfold sr04_Reserved.f at H
 clear h
 refine c_seq rfl ?_
 refine r_ordb (l:=[0,1]) rfl (by kernel_rfl) ?_
 refine s_e rfl rfl (e_box rfl rfl rfl rfl) ?_
 intro b2_
 refine sA rfl ?_
 refine sE rfl ?_
 obtain ⟨j34_,e35_,H⟩:=bind_s H
 refine c_join (β:=Unit) (fun _=>True) (fun _=>[(1,.I a1),(2,.I a2),(3,.P b2_),(6,.I 0),(29,.bool j34_)]) (fun _=>[.b b2_ (.cells (cfA p0 p1 p2 p3 p4 p5 p6) 23 (0,0))]) rfl (fun _ _=>?_) (fun J_=>?_)
 rcases Bool.eq_false_or_eq_true j34_ with h36_ | h36_
 subst h36_
 replace H:=ite_y rfl H
 refine c_cond1 rfl rfl ?_
 refine c_seq rfl ?_
 refine r_ordb (l:=[0]) rfl (by kernel_rfl) ?_
 refine sA rfl ?_
 refine sQ ?_
 refine c_ret rfl ?_
 refine q_then_ret ?_
 have e_:=Option.some.inj H
 subst e_
 exact q_ret (vs:=[.I (-1)]) rfl (.tmp rfl .nil) [] rfl (by decide) (hX)
 subst h36_
 replace H:=ite_n (by decide) H
 refine c_cond0 rfl rfl ?_
 refine kQ rfl ?_
 refine c_seq rfl ?_
 refine r_ordb (l:=[0,1,2,3,4,5,6,7]) rfl (by kernel_rfl) ?_
 refine sM rfl ?_
 refine sV rfl (vF Tryz.underlying23 SZ3 rfl) ?_
 refine sV rfl (vL 0 Tryz.underlying3 rfl) ?_
 refine sR rfl ?_
 refine sR rfl ?_
 refine sM rfl ?_
 refine sR rfl ?_
 refine sA rfl ?_
 refine sQ ?_
 refine c_ret rfl ?_
 have e_:=Option.some.inj H
 subst e_
 exact q_ret (vs:=[.I (IntKind.wrap .i64 ((IntKind.wrap .i64 (1+(IntKind.wrap .i64 (a1 * p1))))+a2))]) rfl (.tmp rfl .nil) [] rfl (by decide) (hX)
 clear H
 have H:=e35_
 clear e35_
 refine r_ordb (l:=[0,1,2,3,4,5,6,7,8,9,10,11,12,13,14,15,16,17,18,19,20,21,22]) rfl (by kernel_rfl) ?_
 refine sV rfl (vLA (lfA p0 p1 p2 p3 p4 p5 p6) 0 Tryz.underlying23 SZ23 rfl) ?_
 obtain ⟨t37_,e38_,H⟩:=bind_s H
 refine s_e rfl rfl (eC [] #[.agg (cfA p0 p1 p2 p3 p4 p5 p6)] Tryz.func50 (by decide) rfl (fun w ht=>sr04_Right_con p0 p1 p2 p3 p4 p5 p6 t37_ e38_ w _)) ?_
 refine sV rfl (v_not rfl rfl) ?_
 refine sM rfl ?_
 rcases Bool.eq_false_or_eq_true (!t37_) with h39_ | h39_
 replace H:=ite_n (not_t (bnot_t h39_)) H
 refine s_splitv (d:=10) (t:=!t37_) rfl (fun _=>?_) (fun h40_=>absurd (h40_.symm.trans h39_) (by decide))
 refine sN rfl ?_
 refine sN rfl ?_
 refine sP rfl ?_
 refine sM rfl ?_
 refine sN rfl ?_
 refine sN rfl ?_
 refine sN rfl ?_
 refine sN rfl ?_
 refine sP rfl ?_
 refine sM rfl ?_
 refine sN rfl ?_
 refine sN rfl ?_
 refine sP rfl ?_
 refine sM rfl ?_
 refine sN rfl ?_
 refine sN rfl ?_
 refine sN rfl ?_
 refine sN rfl ?_
 refine sP rfl ?_
 refine s_end ?_
 have hq_0:=Option.some.inj H
 subst hq_0
 exact q_seq (c_frame (subF_spec (by exact ⟨rfl,rfl,rfl,rfl,rfl,trivial⟩)) (c_take [0] rfl (by decide) (J_ () trivial)))
 replace H:=ite_y (bnot_f h39_) H
 refine s_splitv (d:=10) (t:=!t37_) rfl (fun h41_=>absurd (h41_.symm.trans h39_) (by decide)) (fun _=>?_)
 refine sG rfl (vM rfl) ?_
 refine sG rfl (vR rfl) ?_
 refine sP rfl ?_
 refine sM rfl ?_
 rcases Bool.eq_false_or_eq_true (decide ((a1:Int)<0)) with h42_ | h42_
 replace H:=ite_y (dec_t h42_) H
 refine s_splitv (d:=14) (t:=decide ((a1:Int)<0)) rfl (fun _=>?_) (fun h43_=>absurd (h43_.symm.trans h42_) (by decide))
 refine sN rfl ?_
 refine sN rfl ?_
 refine sN rfl ?_
 refine sN rfl ?_
 refine sP rfl ?_
 refine sM rfl ?_
 refine sN rfl ?_
 refine sN rfl ?_
 refine sP rfl ?_
 refine sM rfl ?_
 refine sN rfl ?_
 refine sN rfl ?_
 refine sN rfl ?_
 refine sN rfl ?_
 refine sP rfl ?_
 refine s_end ?_
 have hq_0:=Option.some.inj H
 subst hq_0
 exact q_seq (c_frame (subF_spec (by exact ⟨rfl,rfl,rfl,rfl,rfl,trivial⟩)) (c_take [0] rfl (by decide) (J_ () trivial)))
 replace H:=ite_n (dec_f h42_) H
 refine s_splitv (d:=14) (t:=decide ((a1:Int)<0)) rfl (fun h44_=>absurd (h44_.symm.trans h42_) (by decide)) (fun _=>?_)
 refine sG rfl (vM rfl) ?_
 refine sG rfl (vF Tryz.underlying23 SZ3 rfl) ?_
 refine sG rfl (vL 0 Tryz.underlying3 rfl) ?_
 refine sG rfl (vR rfl) ?_
 refine sP rfl ?_
 refine sM rfl ?_
 rcases Bool.eq_false_or_eq_true (decide ((a1:Int)≥p0)) with h45_ | h45_
 replace H:=ite_y (dec_t h45_) H
 refine s_splitv (d:=20) (t:=decide ((a1:Int)≥p0)) rfl (fun _=>?_) (fun h46_=>absurd (h46_.symm.trans h45_) (by decide))
 refine sN rfl ?_
 refine sN rfl ?_
 refine sP rfl ?_
 refine sM rfl ?_
 refine sN rfl ?_
 refine sN rfl ?_
 refine sN rfl ?_
 refine sN rfl ?_
 refine sP rfl ?_
 refine s_end ?_
 have hq_0:=Option.some.inj H
 subst hq_0
 exact q_seq (c_frame (subF_spec (by exact ⟨rfl,rfl,rfl,rfl,rfl,trivial⟩)) (c_take [0] rfl (by decide) (J_ () trivial)))
 replace H:=ite_n (dec_f h45_) H
 refine s_splitv (d:=20) (t:=decide ((a1:Int)≥p0)) rfl (fun h47_=>absurd (h47_.symm.trans h45_) (by decide)) (fun _=>?_)
 refine sG rfl (vM rfl) ?_
 refine sG rfl (vR rfl) ?_
 refine sP rfl ?_
 refine sM rfl ?_
 rcases Bool.eq_false_or_eq_true (decide ((a2:Int)<0)) with h48_ | h48_
 replace H:=ite_y (dec_t h48_) H
 refine s_splitv (d:=24) (t:=decide ((a2:Int)<0)) rfl (fun _=>?_) (fun h49_=>absurd (h49_.symm.trans h48_) (by decide))
 refine sN rfl ?_
 refine sN rfl ?_
 refine sN rfl ?_
 refine sN rfl ?_
 refine sP rfl ?_
 refine s_end ?_
 have hq_0:=Option.some.inj H
 subst hq_0
 exact q_seq (c_frame (subF_spec (by exact ⟨rfl,rfl,rfl,rfl,rfl,trivial⟩)) (c_take [0] rfl (by decide) (J_ () trivial)))
 replace H:=ite_n (dec_f h48_) H
 refine s_splitv (d:=24) (t:=decide ((a2:Int)<0)) rfl (fun h50_=>absurd (h50_.symm.trans h48_) (by decide)) (fun _=>?_)
 refine sG rfl (vM rfl) ?_
 refine sG rfl (vF Tryz.underlying23 SZ3 rfl) ?_
 refine sG rfl (vL 0 Tryz.underlying3 rfl) ?_
 refine sG rfl (vR rfl) ?_
 refine sP rfl ?_
 refine s_end ?_
 have hq_0:=Option.some.inj H
 subst hq_0
 exact q_seq (c_frame (subF_spec (by exact ⟨rfl,rfl,rfl,rfl,rfl,trivial⟩)) (c_take [0] rfl (by decide) (J_ () trivial)))
def sr21_settled.l0:Nat→Int→Int→Int→Int→Int→Int→Int→List Int→Int→Int→Int→Option Bool
 | 0,_,_,_,_,_,_,_,_,_,_,_=>none
 | k+1,p0,p1,p2,p3,p4,p5,p6,l1,a2,t5_,x45_=>(sr21_at.f p0 p1 p2 p3 p4 p5 p6 l1 t5_ 4).bind fun t72_=>(if (x45_:Int)<(IntKind.wrap .i64 t72_) then (sr21_Level.f k p0 p1 p2 p3 p4 p5 p6 l1 x45_).bind fun (t94_,t95_)=>((sr21_marked.f p0 p1 p2 p3 p4 p5 p6 l1 t5_ x45_).bind fun t109_=>(if t109_=true then some (true,true,true) else (sr21_in.f k t94_ a2).bind fun t112_=>some (false,false,!t112_)):Option (Bool × Bool × Bool)).bind fun (j104_,j105_,j106_)=>(if j106_=true then some false else sr21_settled.l0 k p0 p1 p2 p3 p4 p5 p6 l1 a2 t5_ (IntKind.wrap .i64 (x45_+1))) else (sr21_Level.f k p0 p1 p2 p3 p4 p5 p6 l1 0).bind fun (t120_,t121_)=>(sr21_in.f k t120_ a2).bind fun t127_=>some t127_)
def sr21_settled.f (k:Nat) (p0:Int) (p1:Int) (p2:Int) (p3:Int) (p4:Int) (p5:Int) (p6:Int) (l1:List Int) (a2:Int):Option Bool:=(sr01_Index.f a2).bind fun t5_=>((sr21_at.f p0 p1 p2 p3 p4 p5 p6 l1 t5_ 2).bind fun t129_=>(sr02_Dead.f t129_).bind fun t131_=>(if t131_=true then some true else (sr21_at.f p0 p1 p2 p3 p4 p5 p6 l1 t5_ 5).bind fun t134_=>some ((t134_:Int) != 1)):Option Bool).bind fun j24_=>(if j24_=true then some false else sr21_settled.l0 k p0 p1 p2 p3 p4 p5 p6 l1 a2 t5_ 0)
set_option maxRecDepth 100000 in
set_option maxHeartbeats 4000000 in
theorem sr21_settled_con (k:Nat) (p0:Int) (p1:Int) (p2:Int) (p3:Int) (p4:Int) (p5:Int) (p6:Int) (A1:Option Addr) (c1:Nat) (l1:List Int) (a2:Int) (r0:Bool) (h:sr21_settled.f k p0 p1 p2 p3 p4 p5 p6 l1 a2=some r0) (w0:World) (Hs:List Nat):Con Tryz.prog 44 #[.agg (cfA p0 p1 p2 p3 p4 p5 p6),.slice A1 l1.length c1,.U a2] w0 Hs [.f (KU A1 c1 l1)] (fun X=>X (.bool r0) []):=by
 refine con_enter (c:=bodyOf Tryz.f44) Tryz.func44 rfl (m:=63) rfl rfl rfl ?_
 intro X hX _
 have H:=h
 unfold sr21_settled.f at H
 clear h
 refine c_seq rfl ?_
 refine r_ordb (l:=[0,1]) rfl (by kernel_rfl) ?_
 refine s_e rfl rfl (e_box rfl rfl rfl rfl) ?_
 intro b2_
 refine sA rfl ?_
 refine sE rfl ?_
 refine r_ordb (l:=[0,1,2]) rfl (by kernel_rfl) ?_
 refine sM rfl ?_
 obtain ⟨t5_,e6_,H⟩:=bind_s H
 refine s_e rfl rfl (eC [] #[.U a2] Tryz.func17 (by decide) rfl (fun w ht=>sr01_Index_con a2 t5_ e6_ w _)) ?_
 refine sA rfl ?_
 refine sE rfl ?_
 obtain ⟨j24_,e25_,H⟩:=bind_s H
 refine c_join (β:=Unit) (fun _=>True) (fun _=>[(1,.slice A1 l1.length c1),(2,.U a2),(3,.P b2_),(6,.bool false),(7,.I t5_),(26,.bool j24_)]) (fun _=>[.b b2_ (.cells (cfA p0 p1 p2 p3 p4 p5 p6) 23 (0,0)),.f (KU A1 c1 l1)]) rfl (fun _ _=>?_) (fun J_=>?_)
 ·
  rcases Bool.eq_false_or_eq_true j24_ with h26_ | h26_
  ·
   subst h26_
   replace H:=ite_y rfl H
   refine c_cond1 rfl rfl ?_
   refine c_seq rfl ?_
   refine r_ordb (l:=[0]) rfl (by kernel_rfl) ?_
   refine sA rfl ?_
   refine sQ ?_
   refine c_ret rfl ?_
   refine q_then_ret ?_
   have e_:=Option.some.inj H
   subst e_
   exact q_ret (vs:=[.bool false]) rfl (.tmp rfl .nil) [] rfl (by decide) (hX)
  ·
   subst h26_
   replace H:=ite_n (by decide) H
   refine c_cond0 rfl rfl ?_
   refine kQ rfl ?_
   refine c_seq rfl ?_
   refine c_seq rfl ?_
   refine r_ordb (l:=[0]) rfl (by kernel_rfl) ?_
   refine sA rfl ?_
   refine sQ ?_
   refine c_block rfl ?_
   refine c_loop (σ:=Nat × Int) (fun (k,x45_)=>sr21_settled.l0 k p0 p1 p2 p3 p4 p5 p6 l1 a2 t5_ x45_=some r0) (fun (k,x45_)=>k) (fun (k,x45_)=>[(1,.slice A1 l1.length c1),(2,.U a2),(3,.P b2_),(6,.bool false),(7,.I t5_),(8,.I x45_)]) (fun (k,x45_)=>[.b b2_ (.cells (cfA p0 p1 p2 p3 p4 p5 p6) 23 (0,0)),.f (KU A1 c1 l1)]) (k,0) [0,1] rfl H (subF_spec ⟨rfl,rfl,rfl,rfl,rfl,rfl,trivial⟩) rfl (by decide) ?_
   rintro ⟨k0_,x45_⟩ hs64_
   clear H
   have H:sr21_settled.l0 k0_ p0 p1 p2 p3 p4 p5 p6 l1 a2 t5_ x45_=some r0:=hs64_
   try clear hs64_
   rcases k0_ with _ | k0_
   ·exact none_no (show none=_ from H)
   unfold sr21_settled.l0 at H
   have hko_0:k0_≤k0_:=Nat.le_refl _
   refine c_seq rfl ?_
   refine c_seq rfl ?_
   refine r_ordb (l:=[0,1,2,3,4,5,6]) rfl (by kernel_rfl) ?_
   refine sM rfl ?_
   refine sV rfl (vLA (lfA p0 p1 p2 p3 p4 p5 p6) 0 Tryz.underlying23 SZ23 rfl) ?_
   refine sM rfl ?_
   refine sM rfl ?_
   obtain ⟨t72_,e73_,H⟩:=bind_s H
   refine s_e rfl rfl (eC [1] #[.agg (cfA p0 p1 p2 p3 p4 p5 p6),.slice A1 l1.length c1,.I t5_,.I 4] Tryz.func46 (by decide) rfl (fun w ht=>sr21_at_con p0 p1 p2 p3 p4 p5 p6 A1 c1 l1 t5_ 4 t72_ e73_ w _)) ?_
   refine sV rfl (v_conv rfl Tryz.underlying41 Tryz.underlying3 rfl) ?_
   refine sR rfl ?_
   refine sQ ?_
   rcases Bool.eq_false_or_eq_true (decide ((x45_:Int)<(IntKind.wrap .i64 t72_))) with h74_ | h74_
   ·
    replace H:=ite_y (dec_t h74_) H
    refine cT h74_ rfl ?_
    refine kQ rfl ?_
    refine c_seq rfl ?_
    refine c_block rfl ?_
    refine c_seq rfl ?_
    refine r_ordb (l:=[0,1,2,3,4,5,6,7,8]) rfl (by kernel_rfl) ?_
    refine sV rfl (vLA (lfA p0 p1 p2 p3 p4 p5 p6) 0 Tryz.underlying23 SZ23 rfl) ?_
    refine sM rfl ?_
    refine sM rfl ?_
    obtain ⟨⟨t94_,t95_⟩,e96_,H⟩:=bind_s H
    refine s_e rfl rfl (eC [1] #[.agg (cfA p0 p1 p2 p3 p4 p5 p6),.slice A1 l1.length c1,.I x45_] Tryz.func16 (by decide) rfl (fun w ht=>sr21_Level_con _ p0 p1 p2 p3 p4 p5 p6 A1 c1 l1 x45_ t94_ t95_ e96_ w _)) ?_
    intro A97_ c98_
    refine sM rfl ?_
    refine sV rfl (v_ext rfl rfl rfl) ?_
    refine sV rfl (v_ext rfl rfl rfl) ?_
    refine sA rfl ?_
    refine sA rfl ?_
    refine sQ ?_
    obtain ⟨⟨j104_,j105_,j106_⟩,e107_,H⟩:=bind_s H
    refine c_join (β:=Unit) (fun _=>True) (fun _=>[(1,.slice A1 l1.length c1),(2,.U a2),(3,.P b2_),(6,.bool false),(7,.I t5_),(8,.I x45_),(27,.I x45_),(28,.agg (cfA p0 p1 p2 p3 p4 p5 p6)),(29,.slice A1 l1.length c1),(30,.I t5_),(31,.U t72_),(32,.I (IntKind.wrap .i64 t72_)),(33,.bool (decide ((x45_:Int)<(IntKind.wrap .i64 t72_)))),(37,.agg (cfA p0 p1 p2 p3 p4 p5 p6)),(38,.slice A1 l1.length c1),(39,.I x45_),(40,.tuple #[.slice A97_ t94_.length c98_,.U t95_]),(36,.tuple #[.slice A97_ t94_.length c98_,.U t95_]),(41,.slice A97_ t94_.length c98_),(42,.U t95_),(9,.slice A97_ t94_.length c98_),(43,.agg (cfA p0 p1 p2 p3 p4 p5 p6)),(44,.slice A1 l1.length c1),(45,.I t5_),(46,.I x45_),(47,.bool j104_),(48,.bool j105_),(53,.bool j106_)]) (fun _=>[.f (KU A97_ c98_ t94_),.b b2_ (.cells (cfA p0 p1 p2 p3 p4 p5 p6) 23 (0,0)),.f (KU A1 c1 l1)]) rfl (fun _ _=>?_) (fun J_=>?_)
    ·
     rcases Bool.eq_false_or_eq_true j106_ with h108_ | h108_
     ·
      subst h108_
      replace H:=ite_y rfl H
      refine c_cond1 rfl rfl ?_
      refine c_seq rfl ?_
      refine r_ordb (l:=[0]) rfl (by kernel_rfl) ?_
      refine sA rfl ?_
      refine sQ ?_
      refine c_ret rfl ?_
      refine q_block_ret ?_
      refine q_then_ret ?_
      refine q_then_ret ?_
      refine q_block_ret ?_
      refine q_then_ret ?_
      have e_:=Option.some.inj H
      subst e_
      exact q_ret (vs:=[.bool false]) rfl (.tmp rfl .nil) [] rfl (by decide) (hX)
     ·
      subst h108_
      replace H:=ite_n (by decide) H
      refine c_cond0 rfl rfl ?_
      refine c_skip rfl ?_
      refine q_block ?_
      refine q_seq ?_
      refine r_ordb (l:=[0,1,2]) rfl (by kernel_rfl) ?_
      refine sM rfl ?_
      refine sR rfl ?_
      refine sA rfl ?_
      refine s_end ?_
      exact q_again (k0_,IntKind.wrap .i64 (x45_+1)) [1,2] H (Nat.lt_succ_of_le hko_0) (subF_spec ⟨rfl,rfl,rfl,rfl,rfl,rfl,trivial⟩) rfl (by decide)
    ·
     clear H
     have H:=e107_
     clear e107_
     refine r_ordb (l:=[0,1,2,3,4,5,6,7,8,9,10]) rfl (by kernel_rfl) ?_
     refine sV rfl (vLA (lfA p0 p1 p2 p3 p4 p5 p6) 1 Tryz.underlying23 SZ23 rfl) ?_
     refine sM rfl ?_
     refine sM rfl ?_
     refine sM rfl ?_
     obtain ⟨t109_,e110_,H⟩:=bind_s H
     refine s_e rfl rfl (eC [2] #[.agg (cfA p0 p1 p2 p3 p4 p5 p6),.slice A1 l1.length c1,.I t5_,.I x45_] Tryz.func91 (by decide) rfl (fun w ht=>sr21_marked_con p0 p1 p2 p3 p4 p5 p6 A1 c1 l1 t5_ x45_ t109_ e110_ w _)) ?_
     refine sM rfl ?_
     rcases Bool.eq_false_or_eq_true t109_ with h111_ | h111_
     ·
      subst h111_
      replace H:=ite_y rfl H
      refine sN rfl ?_
      refine sN rfl ?_
      refine sN rfl ?_
      refine sN rfl ?_
      refine sP rfl ?_
      refine s_end ?_
      have hq_0:=Option.some.inj H
      obtain ⟨ee_0,hq_1⟩:=Prod.mk.inj hq_0
      obtain ⟨ee_1,hq_2⟩:=Prod.mk.inj hq_1
      subst ee_0
      subst ee_1
      subst hq_2
      exact q_seq (c_frame (subF_spec (by exact ⟨rfl,rfl,rfl,rfl,rfl,rfl,rfl,rfl,rfl,rfl,rfl,rfl,rfl,rfl,rfl,rfl,rfl,rfl,rfl,rfl,rfl,rfl,rfl,rfl,rfl,rfl,rfl,rfl,trivial⟩)) (c_take [0,1,2] rfl (by decide) (J_ () trivial)))
     ·
      subst h111_
      replace H:=ite_n (by decide) H
      refine sG rfl (vM rfl) ?_
      refine sG rfl (vM rfl) ?_
      obtain ⟨t112_,e113_,H⟩:=bind_s H
      refine s_eg rfl rfl (eC [0] #[.slice A97_ t94_.length c98_,.U a2] Tryz.func93 (by decide) rfl (fun w ht=>sr21_in_con _ A97_ c98_ t94_ a2 t112_ e113_ w _)) ?_
      refine sG rfl (v_not rfl rfl) ?_
      refine sP rfl ?_
      refine s_end ?_
      have hq_0:=Option.some.inj H
      obtain ⟨ee_0,hq_1⟩:=Prod.mk.inj hq_0
      obtain ⟨ee_1,hq_2⟩:=Prod.mk.inj hq_1
      subst ee_0
      subst ee_1
      subst hq_2
      exact q_seq (c_frame (subF_spec (by exact ⟨rfl,rfl,rfl,rfl,rfl,rfl,rfl,rfl,rfl,rfl,rfl,rfl,rfl,rfl,rfl,rfl,rfl,rfl,rfl,rfl,rfl,rfl,rfl,rfl,rfl,rfl,rfl,rfl,trivial⟩)) (c_take [0,1,2] rfl (by decide) (J_ () trivial)))
   ·
    replace H:=ite_n (dec_f h74_) H
    refine cF h74_ rfl ?_
    refine c_exit (i:=0) rfl rfl ?_
    refine q_then_exit ?_
    refine q_then_exit ?_
    refine q_block_here rfl ?_
    refine q_seq ?_
    refine c_seq rfl ?_
    refine r_ordb (l:=[0,1,2,3,4,5,6,7]) rfl (by kernel_rfl) ?_
    refine sV rfl (vLA (lfA p0 p1 p2 p3 p4 p5 p6) 0 Tryz.underlying23 SZ23 rfl) ?_
    refine sM rfl ?_
    obtain ⟨⟨t120_,t121_⟩,e122_,H⟩:=bind_s H
    refine s_e rfl rfl (eC [1] #[.agg (cfA p0 p1 p2 p3 p4 p5 p6),.slice A1 l1.length c1,.I 0] Tryz.func16 (by decide) rfl (fun w ht=>sr21_Level_con _ p0 p1 p2 p3 p4 p5 p6 A1 c1 l1 0 t120_ t121_ e122_ w _)) ?_
    intro A123_ c124_
    refine sM rfl ?_
    refine sV rfl (v_ext rfl rfl rfl) ?_
    refine sV rfl (v_ext rfl rfl rfl) ?_
    refine sA rfl ?_
    refine sA rfl ?_
    refine sE rfl ?_
    refine r_ordb (l:=[0,1,2,3]) rfl (by kernel_rfl) ?_
    refine sM rfl ?_
    refine sM rfl ?_
    obtain ⟨t127_,e128_,H⟩:=bind_s H
    refine s_e rfl rfl (eC [0] #[.slice A123_ t120_.length c124_,.U a2] Tryz.func93 (by decide) rfl (fun w ht=>sr21_in_con _ A123_ c124_ t120_ a2 t127_ e128_ w _)) ?_
    refine sA rfl ?_
    refine sQ ?_
    refine c_ret rfl ?_
    have e_:=Option.some.inj H
    subst e_
    exact q_ret (vs:=[.bool t127_]) rfl (.tmp rfl .nil) [] rfl (by decide) (hX)
 ·
  clear H
  have H:=e25_
  clear e25_
  refine r_ordb (l:=[0,1,2,3,4,5,6,7,8,9,10,11]) rfl (by kernel_rfl) ?_
  refine sV rfl (vLA (lfA p0 p1 p2 p3 p4 p5 p6) 0 Tryz.underlying23 SZ23 rfl) ?_
  refine sM rfl ?_
  refine sM rfl ?_
  obtain ⟨t129_,e130_,H⟩:=bind_s H
  refine s_e rfl rfl (eC [1] #[.agg (cfA p0 p1 p2 p3 p4 p5 p6),.slice A1 l1.length c1,.I t5_,.I 2] Tryz.func46 (by decide) rfl (fun w ht=>sr21_at_con p0 p1 p2 p3 p4 p5 p6 A1 c1 l1 t5_ 2 t129_ e130_ w _)) ?_
  obtain ⟨t131_,e132_,H⟩:=bind_s H
  refine s_e rfl rfl (eC [] #[.U t129_] Tryz.func47 (by decide) rfl (fun w ht=>sr02_Dead_con t129_ t131_ e132_ w _)) ?_
  refine sM rfl ?_
  rcases Bool.eq_false_or_eq_true t131_ with h133_ | h133_
  ·
   subst h133_
   replace H:=ite_y rfl H
   refine sN rfl ?_
   refine sN rfl ?_
   refine sN rfl ?_
   refine sN rfl ?_
   refine sN rfl ?_
   refine sP rfl ?_
   refine s_end ?_
   have hq_0:=Option.some.inj H
   subst hq_0
   exact q_seq (c_frame (subF_spec (by exact ⟨rfl,rfl,rfl,rfl,rfl,rfl,trivial⟩)) (c_take [0,1] rfl (by decide) (J_ () trivial)))
  ·
   subst h133_
   replace H:=ite_n (by decide) H
   refine sG rfl (vLA (lfA p0 p1 p2 p3 p4 p5 p6) 0 Tryz.underlying23 SZ23 rfl) ?_
   refine sG rfl (vM rfl) ?_
   refine sG rfl (vM rfl) ?_
   obtain ⟨t134_,e135_,H⟩:=bind_s H
   refine s_eg rfl rfl (eC [1] #[.agg (cfA p0 p1 p2 p3 p4 p5 p6),.slice A1 l1.length c1,.I t5_,.I 5] Tryz.func46 (by decide) rfl (fun w ht=>sr21_at_con p0 p1 p2 p3 p4 p5 p6 A1 c1 l1 t5_ 5 t134_ e135_ w _)) ?_
   refine sG rfl (vR rfl) ?_
   refine sP rfl ?_
   refine s_end ?_
   have hq_0:=Option.some.inj H
   subst hq_0
   exact q_seq (c_frame (subF_spec (by exact ⟨rfl,rfl,rfl,rfl,rfl,rfl,trivial⟩)) (c_take [0,1] rfl (by decide) (J_ () trivial)))
def sr21_times.l0:Nat→Int→Int→Int→Int→Int→Int→Int→List Int→List Int→Int→Int→Int→Option Int
 | 0,_,_,_,_,_,_,_,_,_,_,_,_=>none
 | k+1,p0,p1,p2,p3,p4,p5,p6,l1,l2,a3,x34_,x35_=>(if (x35_:Int)<(l2.length:Int) then (if 0≤(x35_:Int) then (sr01_Index.f (rd l2 x35_)).bind fun t107_=>((sr01_Valid.f (rd l2 x35_)).bind fun t171_=>(if t171_=true then (sr01_Marked.f (rd l2 x35_)).bind fun t176_=>(if t176_=true then some (t171_,!t171_,false,true,true,true,true,true) else (if (t107_:Int)<1 then some (t171_,!t171_,false,false,false,decide ((t107_:Int)<1),true,true) else some (t171_,!t171_,false,false,false,decide ((t107_:Int)<1),false,decide ((t107_:Int) > p2)))) else some (t171_,!t171_,true,true,true,true,true,true)):Option (Bool × Bool × Bool × Bool × Bool × Bool × Bool × Bool)).bind fun (j134_,j135_,j136_,j137_,j138_,j139_,j140_,j141_)=>(if j141_=true then some (-1) else (sr21_at.f p0 p1 p2 p3 p4 p5 p6 l1 t107_ 0).bind fun t159_=>(sr01_Gen.f (rd l2 x35_)).bind fun t161_=>(sr02_Taken.f t161_).bind fun t163_=>(if (t159_:Int)=t163_ then (if (t107_:Int)=a3 then sr21_times.l0 k p0 p1 p2 p3 p4 p5 p6 l1 l2 a3 (IntKind.wrap .i64 (x34_+1)) (IntKind.wrap .i64 (x35_+1)) else sr21_times.l0 k p0 p1 p2 p3 p4 p5 p6 l1 l2 a3 x34_ (IntKind.wrap .i64 (x35_+1))) else some (-1))) else none) else some x34_)
def sr21_times.f (k:Nat) (p0:Int) (p1:Int) (p2:Int) (p3:Int) (p4:Int) (p5:Int) (p6:Int) (l1:List Int) (l2:List Int) (a3:Int):Option Int:=sr21_times.l0 k p0 p1 p2 p3 p4 p5 p6 l1 l2 a3 0 0
set_option maxRecDepth 100000 in
set_option maxHeartbeats 4000000 in
theorem sr21_times_con (k:Nat) (p0:Int) (p1:Int) (p2:Int) (p3:Int) (p4:Int) (p5:Int) (p6:Int) (A1:Option Addr) (c1:Nat) (l1:List Int) (A2:Option Addr) (c2:Nat) (l2:List Int) (a3:Int) (r0:Int) (h:sr21_times.f k p0 p1 p2 p3 p4 p5 p6 l1 l2 a3=some r0) (w0:World) (Hs:List Nat):Con Tryz.prog 45 #[.agg (cfA p0 p1 p2 p3 p4 p5 p6),.slice A1 l1.length c1,.slice A2 l2.length c2,.I a3] w0 Hs [.f (KU A1 c1 l1),.f (KU A2 c2 l2)] (fun X=>X (.I r0) []):=by
 refine con_enter (c:=bodyOf Tryz.f45) Tryz.func45 rfl (m:=63) rfl rfl rfl ?_
 intro X hX _
 have H:=h
 unfold sr21_times.f at H
 clear h
 refine c_seq rfl ?_
 refine r_ordb (l:=[0,1]) rfl (by kernel_rfl) ?_
 refine s_e rfl rfl (e_box rfl rfl rfl rfl) ?_
 intro b2_
 refine sA rfl ?_
 refine sE rfl ?_
 refine r_ordb (l:=[0]) rfl (by kernel_rfl) ?_
 refine sA rfl ?_
 refine sE rfl ?_
 refine c_seq rfl ?_
 refine r_ordb (l:=[0]) rfl (by kernel_rfl) ?_
 refine sA rfl ?_
 refine sQ ?_
 refine c_block rfl ?_
 refine c_loop (σ:=Nat × Int × Int) (fun (k,x34_,x35_)=>sr21_times.l0 k p0 p1 p2 p3 p4 p5 p6 l1 l2 a3 x34_ x35_=some r0) (fun (k,x34_,x35_)=>k) (fun (k,x34_,x35_)=>[(1,.slice A1 l1.length c1),(2,.slice A2 l2.length c2),(3,.I a3),(4,.P b2_),(8,.I 0),(9,.I x34_),(10,.I x35_)]) (fun (k,x34_,x35_)=>[.b b2_ (.cells (cfA p0 p1 p2 p3 p4 p5 p6) 23 (0,0)),.f (KU A1 c1 l1),.f (KU A2 c2 l2)]) (k,0,0) [0,1,2] rfl H (subF_spec ⟨rfl,rfl,rfl,rfl,rfl,rfl,rfl,trivial⟩) rfl (by decide) ?_
 rintro ⟨k0_,x34_,x35_⟩ hs68_
 clear H
 have H:sr21_times.l0 k0_ p0 p1 p2 p3 p4 p5 p6 l1 l2 a3 x34_ x35_=some r0:=hs68_
 try clear hs68_
 rcases k0_ with _ | k0_
 ·exact none_no (show none=_ from H)
 unfold sr21_times.l0 at H
 have hko_0:k0_≤k0_:=Nat.le_refl _
 refine c_seq rfl ?_
 refine c_seq rfl ?_
 refine r_ordb (l:=[0,1,2,3]) rfl (by kernel_rfl) ?_
 refine sM rfl ?_
 refine sM rfl ?_
 refine sV rfl (v_len rfl rfl rfl Tryz.underlying24 rfl rfl) ?_
 refine sR rfl ?_
 refine sQ ?_
 rcases Bool.eq_false_or_eq_true (decide ((x35_:Int)<(l2.length:Int))) with h72_ | h72_
 ·
  replace H:=ite_y (dec_t h72_) H
  refine cT h72_ rfl ?_
  refine kQ rfl ?_
  refine c_seq rfl ?_
  refine c_block rfl ?_
  refine c_seq rfl ?_
  refine r_ordb (l:=[0,1,2,3,4,5]) rfl (by kernel_rfl) ?_
  refine sM rfl ?_
  refine sM rfl ?_
  obtain ⟨n106_,H⟩:=ite_no H
  refine sV rfl (v_iaK (i:=2) rfl Tryz.underlying24 SZ41 rfl rfl rfl rfl n106_ (dec_t h72_)) ?_
  refine sV rfl (v_ldK (v := .U (rd l2 x35_)) 0 2 rfl Tryz.underlying41 rfl rfl rfl rfl n106_ (dec_t h72_) (fun w K h=>h)) ?_
  obtain ⟨t107_,e108_,H⟩:=bind_s H
  refine s_e rfl rfl (eC [] #[.U (rd l2 x35_)] Tryz.func17 (by decide) rfl (fun w ht=>sr01_Index_con (rd l2 x35_) t107_ e108_ w _)) ?_
  refine sA rfl ?_
  refine sE rfl ?_
  obtain ⟨⟨j134_,j135_,j136_,j137_,j138_,j139_,j140_,j141_⟩,e142_,H⟩:=bind_s H
  refine c_join (β:=Unit) (fun _=>True) (fun _=>[(1,.slice A1 l1.length c1),(2,.slice A2 l2.length c2),(3,.I a3),(4,.P b2_),(8,.I 0),(9,.I x34_),(10,.I x35_),(12,.I x35_),(13,.slice A2 l2.length c2),(14,.I (l2.length:Int)),(15,.bool (decide ((x35_:Int)<(l2.length:Int)))),(18,.slice A2 l2.length c2),(19,.I x35_),(20,.pointer (some (at0 A2 x35_ 1))),(21,.U (rd l2 x35_)),(22,.I t107_),(11,.I t107_),(23,.slice A2 l2.length c2),(24,.I x35_),(25,.pointer (some (at0 A2 x35_ 1))),(26,.U (rd l2 x35_)),(27,.bool j134_),(28,.bool j135_),(29,.bool j136_),(35,.bool j137_),(36,.bool j138_),(39,.bool j139_),(40,.bool j140_),(45,.bool j141_)]) (fun _=>[.b b2_ (.cells (cfA p0 p1 p2 p3 p4 p5 p6) 23 (0,0)),.f (KU A1 c1 l1),.f (KU A2 c2 l2)]) rfl (fun _ _=>?_) (fun J_=>?_)
  ·
   rcases Bool.eq_false_or_eq_true j141_ with h143_ | h143_
   ·
    subst h143_
    replace H:=ite_y rfl H
    refine c_cond1 rfl rfl ?_
    refine c_seq rfl ?_
    refine r_ordb (l:=[0]) rfl (by kernel_rfl) ?_
    refine sA rfl ?_
    refine sQ ?_
    refine c_ret rfl ?_
    refine q_then_ret ?_
    refine q_block_ret ?_
    refine q_then_ret ?_
    refine q_then_ret ?_
    refine q_block_ret ?_
    refine q_then_ret ?_
    have e_:=Option.some.inj H
    subst e_
    exact q_ret (vs:=[.I (-1)]) rfl (.tmp rfl .nil) [] rfl (by decide) (hX)
   ·
    subst h143_
    replace H:=ite_n (by decide) H
    refine c_cond0 rfl rfl ?_
    refine kQ rfl ?_
    refine c_seq rfl ?_
    refine c_seq rfl ?_
    obtain ⟨t159_,e160_,H⟩:=bind_s H
    obtain ⟨t161_,e162_,H⟩:=bind_s H
    obtain ⟨t163_,e164_,H⟩:=bind_s H
    refine r_any [.b b2_ (.cells (cfA p0 p1 p2 p3 p4 p5 p6) 23 (0,0)),.f (KU A1 c1 l1),.f (KU A2 c2 l2)] (by kernel_rfl) rfl (by kernel_rfl) (mem_pick (idx:=[0,1,2]) rfl) ?_
    refine aV 0 rfl (by kernel_rfl) (vLA (lfA p0 p1 p2 p3 p4 p5 p6) 0 Tryz.underlying23 SZ23 rfl) ?_
    refine aV 1 rfl (by kernel_rfl) (vM rfl) ?_
    refine aV 2 rfl (by kernel_rfl) (vM rfl) ?_
    refine aV 4 rfl (by kernel_rfl) (vM rfl) ?_
    refine aV 5 rfl (by kernel_rfl) (vM rfl) ?_
    refine aV 6 rfl (by kernel_rfl) (v_iaK (i:=2) rfl Tryz.underlying24 SZ41 rfl rfl rfl rfl n106_ (dec_t h72_)) ?_
    refine aV 7 rfl (by kernel_rfl) (v_ldK (v := .U (rd l2 x35_)) 0 2 rfl Tryz.underlying41 rfl rfl rfl rfl n106_ (dec_t h72_) (fun w K h=>h)) ?_
    refine a_1 (i:=3) (by kernel_rfl) ?_
    refine i_e rfl rfl (eC [1] #[.agg (cfA p0 p1 p2 p3 p4 p5 p6),.slice A1 l1.length c1,.I t107_,.I 0] Tryz.func46 (by decide) rfl (fun w ht=>sr21_at_con p0 p1 p2 p3 p4 p5 p6 A1 c1 l1 t107_ 0 t159_ e160_ w _)) ?_
    refine ⟨(mem_pick (idx:=[0,1,2]) rfl),?_⟩
    refine a_1 (i:=8) (by kernel_rfl) ?_
    refine i_e rfl rfl (eC [] #[.U (rd l2 x35_)] Tryz.func19 (by decide) rfl (fun w ht=>sr01_Gen_con (rd l2 x35_) t161_ e162_ w _)) ?_
    refine ⟨(mem_pick (idx:=[0,1,2]) rfl),?_⟩
    refine a_1 (i:=9) (by kernel_rfl) ?_
    refine i_e rfl rfl (eC [] #[.I t161_] Tryz.func18 (by decide) rfl (fun w ht=>sr02_Taken_con t161_ t163_ e164_ w _)) ?_
    refine ⟨(mem_pick (idx:=[0,1,2]) rfl),?_⟩
    refine aV 10 rfl (by kernel_rfl) (vR rfl) ?_
    refine a_end (by kernel_rfl) ?_
    refine q_seq ?_
    rcases Bool.eq_false_or_eq_true ((t159_:Int) != t163_) with h165_ | h165_
    ·
     replace H:=ite_n (ibne_t h165_) H
     refine cT h165_ rfl ?_
     refine c_seq rfl ?_
     refine r_ordb (l:=[0]) rfl (by kernel_rfl) ?_
     refine sA rfl ?_
     refine sQ ?_
     refine c_ret rfl ?_
     refine q_then_ret ?_
     refine q_block_ret ?_
     refine q_then_ret ?_
     refine q_then_ret ?_
     refine q_block_ret ?_
     refine q_then_ret ?_
     have e_:=Option.some.inj H
     subst e_
     exact q_ret (vs:=[.I (-1)]) rfl (.tmp rfl .nil) [] rfl (by decide) (hX)
    ·
     replace H:=ite_y (ibne_f h165_) H
     refine cF h165_ rfl ?_
     refine kQ rfl ?_
     refine c_seq rfl ?_
     refine r_ordb (l:=[0,1,2]) rfl (by kernel_rfl) ?_
     refine sM rfl ?_
     refine sM rfl ?_
     refine sR rfl ?_
     refine sQ ?_
     rcases Bool.eq_false_or_eq_true ((t107_:Int) == a3) with h168_ | h168_
     ·
      replace H:=ite_y (ibeq_t h168_) H
      refine cT h168_ rfl ?_
      refine r_ordb (l:=[0,1,2]) rfl (by kernel_rfl) ?_
      refine sM rfl ?_
      refine sR rfl ?_
      refine sA rfl ?_
      refine s_end ?_
      refine q_block ?_
      refine q_seq ?_
      refine r_ordb (l:=[0,1,2]) rfl (by kernel_rfl) ?_
      refine sM rfl ?_
      refine sR rfl ?_
      refine sA rfl ?_
      refine s_end ?_
      exact q_again (k0_,IntKind.wrap .i64 (x34_+1),IntKind.wrap .i64 (x35_+1)) [0,1,2] H (Nat.lt_succ_of_le hko_0) (subF_spec ⟨rfl,rfl,rfl,rfl,rfl,rfl,rfl,trivial⟩) rfl (by decide)
     ·
      replace H:=ite_n (ibeq_f h168_) H
      refine cF h168_ rfl ?_
      refine c_skip rfl ?_
      refine q_block ?_
      refine q_seq ?_
      refine r_ordb (l:=[0,1,2]) rfl (by kernel_rfl) ?_
      refine sM rfl ?_
      refine sR rfl ?_
      refine sA rfl ?_
      refine s_end ?_
      exact q_again (k0_,x34_,IntKind.wrap .i64 (x35_+1)) [0,1,2] H (Nat.lt_succ_of_le hko_0) (subF_spec ⟨rfl,rfl,rfl,rfl,rfl,rfl,rfl,trivial⟩) rfl (by decide)
  ·
   clear H
   have H:=e142_
   clear e142_
   refine r_ordb (l:=[0,1,2,3,4,5,6,7,8,9,10,11,12,13,14,15,16,17,18,19,20,21,22]) rfl (by kernel_rfl) ?_
   refine sM rfl ?_
   refine sM rfl ?_
   refine sV rfl (v_iaK (i:=2) rfl Tryz.underlying24 SZ41 rfl rfl rfl rfl n106_ (dec_t h72_)) ?_
   refine sV rfl (v_ldK (v := .U (rd l2 x35_)) 0 2 rfl Tryz.underlying41 rfl rfl rfl rfl n106_ (dec_t h72_) (fun w K h=>h)) ?_
   obtain ⟨t171_,e172_,H⟩:=bind_s H
   refine s_e rfl rfl (eC [] #[.U (rd l2 x35_)] Tryz.func52 (by decide) rfl (fun w ht=>sr01_Valid_con (rd l2 x35_) t171_ e172_ w _)) ?_
   refine sV rfl (v_not rfl rfl) ?_
   refine sM rfl ?_
   rcases Bool.eq_false_or_eq_true (!t171_) with h173_ | h173_
   ·
    replace H:=ite_n (not_t (bnot_t h173_)) H
    refine s_splitv (d:=29) (t:=!t171_) rfl (fun _=>?_) (fun h174_=>absurd (h174_.symm.trans h173_) (by decide))
    refine sN rfl ?_
    refine sN rfl ?_
    refine sN rfl ?_
    refine sN rfl ?_
    refine sN rfl ?_
    refine sP rfl ?_
    refine sM rfl ?_
    refine sN rfl ?_
    refine sN rfl ?_
    refine sP rfl ?_
    refine sM rfl ?_
    refine sN rfl ?_
    refine sN rfl ?_
    refine sN rfl ?_
    refine sN rfl ?_
    refine sP rfl ?_
    refine s_end ?_
    have hq_0:=Option.some.inj H
    obtain ⟨ee_0,hq_1⟩:=Prod.mk.inj hq_0
    obtain ⟨ee_1,hq_2⟩:=Prod.mk.inj hq_1
    obtain ⟨ee_2,hq_3⟩:=Prod.mk.inj hq_2
    obtain ⟨ee_3,hq_4⟩:=Prod.mk.inj hq_3
    obtain ⟨ee_4,hq_5⟩:=Prod.mk.inj hq_4
    obtain ⟨ee_5,hq_6⟩:=Prod.mk.inj hq_5
    obtain ⟨ee_6,hq_7⟩:=Prod.mk.inj hq_6
    subst ee_0
    subst ee_1
    subst ee_2
    subst ee_3
    subst ee_4
    subst ee_5
    subst ee_6
    subst hq_7
    exact q_seq (c_frame (subF_spec (by exact ⟨rfl,rfl,rfl,rfl,rfl,rfl,rfl,rfl,rfl,rfl,rfl,rfl,rfl,rfl,rfl,rfl,rfl,rfl,rfl,rfl,rfl,rfl,rfl,rfl,rfl,rfl,rfl,rfl,rfl,trivial⟩)) (c_take [0,1,2] rfl (by decide) (J_ () trivial)))
   ·
    replace H:=ite_y (bnot_f h173_) H
    refine s_splitv (d:=29) (t:=!t171_) rfl (fun h175_=>absurd (h175_.symm.trans h173_) (by decide)) (fun _=>?_)
    refine sG rfl (vM rfl) ?_
    refine sG rfl (vM rfl) ?_
    refine sG rfl (v_iaK (i:=2) rfl Tryz.underlying24 SZ41 rfl rfl rfl rfl n106_ (dec_t h72_)) ?_
    refine sG rfl (v_ldK (v := .U (rd l2 x35_)) 0 2 rfl Tryz.underlying41 rfl rfl rfl rfl n106_ (dec_t h72_) (fun w K h=>h)) ?_
    obtain ⟨t176_,e177_,H⟩:=bind_s H
    refine s_eg rfl rfl (eC [] #[.U (rd l2 x35_)] Tryz.func94 (by decide) rfl (fun w ht=>sr01_Marked_con (rd l2 x35_) t176_ e177_ w _)) ?_
    refine sP rfl ?_
    refine sM rfl ?_
    rcases Bool.eq_false_or_eq_true t176_ with h178_ | h178_
    ·
     subst h178_
     replace H:=ite_y rfl H
     refine sN rfl ?_
     refine sN rfl ?_
     refine sP rfl ?_
     refine sM rfl ?_
     refine sN rfl ?_
     refine sN rfl ?_
     refine sN rfl ?_
     refine sN rfl ?_
     refine sP rfl ?_
     refine s_end ?_
     have hq_0:=Option.some.inj H
     obtain ⟨ee_0,hq_1⟩:=Prod.mk.inj hq_0
     obtain ⟨ee_1,hq_2⟩:=Prod.mk.inj hq_1
     obtain ⟨ee_2,hq_3⟩:=Prod.mk.inj hq_2
     obtain ⟨ee_3,hq_4⟩:=Prod.mk.inj hq_3
     obtain ⟨ee_4,hq_5⟩:=Prod.mk.inj hq_4
     obtain ⟨ee_5,hq_6⟩:=Prod.mk.inj hq_5
     obtain ⟨ee_6,hq_7⟩:=Prod.mk.inj hq_6
     subst ee_0
     subst ee_1
     subst ee_2
     subst ee_3
     subst ee_4
     subst ee_5
     subst ee_6
     subst hq_7
     exact q_seq (c_frame (subF_spec (by exact ⟨rfl,rfl,rfl,rfl,rfl,rfl,rfl,rfl,rfl,rfl,rfl,rfl,rfl,rfl,rfl,rfl,rfl,rfl,rfl,rfl,rfl,rfl,rfl,rfl,rfl,rfl,rfl,rfl,rfl,trivial⟩)) (c_take [0,1,2] rfl (by decide) (J_ () trivial)))
    ·
     subst h178_
     replace H:=ite_n (by decide) H
     refine sG rfl (vM rfl) ?_
     refine sG rfl (vR rfl) ?_
     refine sP rfl ?_
     refine sM rfl ?_
     rcases Bool.eq_false_or_eq_true (decide ((t107_:Int)<1)) with h179_ | h179_
     ·
      replace H:=ite_y (dec_t h179_) H
      refine s_splitv (d:=40) (t:=decide ((t107_:Int)<1)) rfl (fun _=>?_) (fun h180_=>absurd (h180_.symm.trans h179_) (by decide))
      refine sN rfl ?_
      refine sN rfl ?_
      refine sN rfl ?_
      refine sN rfl ?_
      refine sP rfl ?_
      refine s_end ?_
      have hq_0:=Option.some.inj H
      obtain ⟨ee_0,hq_1⟩:=Prod.mk.inj hq_0
      obtain ⟨ee_1,hq_2⟩:=Prod.mk.inj hq_1
      obtain ⟨ee_2,hq_3⟩:=Prod.mk.inj hq_2
      obtain ⟨ee_3,hq_4⟩:=Prod.mk.inj hq_3
      obtain ⟨ee_4,hq_5⟩:=Prod.mk.inj hq_4
      obtain ⟨ee_5,hq_6⟩:=Prod.mk.inj hq_5
      obtain ⟨ee_6,hq_7⟩:=Prod.mk.inj hq_6
      subst ee_0
      subst ee_1
      subst ee_2
      subst ee_3
      subst ee_4
      subst ee_5
      subst ee_6
      subst hq_7
      exact q_seq (c_frame (subF_spec (by exact ⟨rfl,rfl,rfl,rfl,rfl,rfl,rfl,rfl,rfl,rfl,rfl,rfl,rfl,rfl,rfl,rfl,rfl,rfl,rfl,rfl,rfl,rfl,rfl,rfl,rfl,rfl,rfl,rfl,rfl,trivial⟩)) (c_take [0,1,2] rfl (by decide) (J_ () trivial)))
     ·
      replace H:=ite_n (dec_f h179_) H
      refine s_splitv (d:=40) (t:=decide ((t107_:Int)<1)) rfl (fun h181_=>absurd (h181_.symm.trans h179_) (by decide)) (fun _=>?_)
      refine sG rfl (vM rfl) ?_
      refine sG rfl (vF Tryz.underlying23 SZ3 rfl) ?_
      refine sG rfl (vL 0 Tryz.underlying3 rfl) ?_
      refine sG rfl (vR rfl) ?_
      refine sP rfl ?_
      refine s_end ?_
      have hq_0:=Option.some.inj H
      obtain ⟨ee_0,hq_1⟩:=Prod.mk.inj hq_0
      obtain ⟨ee_1,hq_2⟩:=Prod.mk.inj hq_1
      obtain ⟨ee_2,hq_3⟩:=Prod.mk.inj hq_2
      obtain ⟨ee_3,hq_4⟩:=Prod.mk.inj hq_3
      obtain ⟨ee_4,hq_5⟩:=Prod.mk.inj hq_4
      obtain ⟨ee_5,hq_6⟩:=Prod.mk.inj hq_5
      obtain ⟨ee_6,hq_7⟩:=Prod.mk.inj hq_6
      subst ee_0
      subst ee_1
      subst ee_2
      subst ee_3
      subst ee_4
      subst ee_5
      subst ee_6
      subst hq_7
      exact q_seq (c_frame (subF_spec (by exact ⟨rfl,rfl,rfl,rfl,rfl,rfl,rfl,rfl,rfl,rfl,rfl,rfl,rfl,rfl,rfl,rfl,rfl,rfl,rfl,rfl,rfl,rfl,rfl,rfl,rfl,rfl,rfl,rfl,rfl,trivial⟩)) (c_take [0,1,2] rfl (by decide) (J_ () trivial)))
 ·
  replace H:=ite_n (dec_f h72_) H
  refine cF h72_ rfl ?_
  refine c_exit (i:=0) rfl rfl ?_
  refine q_then_exit ?_
  refine q_then_exit ?_
  refine q_block_here rfl ?_
  refine q_seq ?_
  refine c_seq rfl ?_
  refine r_ordb (l:=[0,1]) rfl (by kernel_rfl) ?_
  refine sM rfl ?_
  refine sA rfl ?_
  refine sQ ?_
  refine c_ret rfl ?_
  have e_:=Option.some.inj H
  subst e_
  exact q_ret (vs:=[.I x34_]) rfl (.tmp rfl .nil) [] rfl (by decide) (hX)
def sr02_State.f (a0:Int):Option Int:=some (IntKind.wrap .i64 (Int.tmod a0 4))
set_option maxRecDepth 100000 in
set_option maxHeartbeats 4000000 in
theorem sr02_State_con (a0:Int) (r0:Int) (h:sr02_State.f a0=some r0) (w0:World) (Hs:List Nat):Con Tryz.prog 14 #[.U a0] w0 Hs [] (fun X=>X (.I r0) []):=by
 refine con_enter (c:=bodyOf Tryz.f14) Tryz.func14 rfl (m:=6) rfl rfl rfl ?_
 intro X hX _
 have H:=h
 unfold sr02_State.f at H
 clear h
 refine c_seq rfl ?_
 refine r_ordb (l:=[0]) rfl (by kernel_rfl) ?_
 refine sA rfl ?_
 refine sE rfl ?_
 refine r_ordb (l:=[0,1,2,3]) rfl (by kernel_rfl) ?_
 refine sM rfl ?_
 refine sV rfl (v_rem rfl rfl rfl (by decide)) ?_
 refine sV rfl (v_conv rfl Tryz.underlying41 Tryz.underlying3 rfl) ?_
 refine sA rfl ?_
 refine sQ ?_
 refine c_ret rfl ?_
 have e_:=Option.some.inj H
 subst e_
 exact q_ret (vs:=[.I (IntKind.wrap .i64 (Int.tmod a0 4))]) rfl (.tmp rfl .nil) [] rfl (by decide) (hX)
mutual
def sr21_Rest.l1:Nat→Int→Int→Int→Int→Int→Int→Int→List Int→List S47→Int→Int→Option Bool
 | 0,_,_,_,_,_,_,_,_,_,_,_=>none
 | k+1,p0,p1,p2,p3,p4,p5,p6,l1,l2,x50_,x102_=>(if (x102_:Int)<p1 then (sr04_Reserved.f p0 p1 p2 p3 p4 p5 p6 x50_ x102_).bind fun t130_=>(if 0≤(t130_:Int) then (if (t130_:Int)<(l1.length:Int) then (if (rd l1 t130_:Int)=0 then sr21_Rest.l1 k p0 p1 p2 p3 p4 p5 p6 l1 l2 x50_ (IntKind.wrap .i64 (x102_+1)) else some false) else none) else none) else sr21_Rest.l0 k p0 p1 p2 p3 p4 p5 p6 l1 l2 (IntKind.wrap .i64 (x50_+1)))
def sr21_Rest.l3:Nat→Int→Int→Int→Int→Int→Int→Int→List Int→List S47→Int→List Int→Int→Option Bool
 | 0,_,_,_,_,_,_,_,_,_,_,_,_=>none
 | k+1,p0,p1,p2,p3,p4,p5,p6,l1,l2,x175_,t223_,x236_=>(if (x236_:Int)<(t223_.length:Int) then (if 0≤(x236_:Int) then (sr21_settled.f k p0 p1 p2 p3 p4 p5 p6 l1 (rd t223_ x236_)).bind fun t262_=>(if t262_=true then sr21_Rest.l3 k p0 p1 p2 p3 p4 p5 p6 l1 l2 x175_ t223_ (IntKind.wrap .i64 (x236_+1)) else some false) else none) else sr21_Rest.l2 k p0 p1 p2 p3 p4 p5 p6 l1 l2 (IntKind.wrap .i64 (x175_+1)))
def sr21_Rest.l5:Nat→Int→Int→Int→Int→Int→Int→Int→List Int→List Int→Int→Option Bool
 | 0,_,_,_,_,_,_,_,_,_,_=>none
 | k+1,p0,p1,p2,p3,p4,p5,p6,l1,xs288_,x355_=>(if (x355_:Int)≤p2 then (sr21_times.f k p0 p1 p2 p3 p4 p5 p6 l1 xs288_ x355_).bind fun t397_=>(sr21_at.f p0 p1 p2 p3 p4 p5 p6 l1 x355_ 0).bind fun t403_=>(sr02_State.f t403_).bind fun t405_=>((if (t397_:Int)<0 then some (true,true,true,true) else (if (t397_:Int) > 1 then some (false,decide ((t397_:Int) > 1),true,true) else some (false,decide ((t397_:Int) > 1),false,!(((t405_:Int) == 1) == ((t397_:Int) == 1))))):Option (Bool × Bool × Bool × Bool)).bind fun (j413_,j414_,j415_,j416_)=>(if j416_=true then some false else sr21_Rest.l5 k p0 p1 p2 p3 p4 p5 p6 l1 xs288_ (IntKind.wrap .i64 (x355_+1))) else some true)
def sr21_Rest.l4:Nat→Int→Int→Int→Int→Int→Int→Int→List Int→List S47→Int→List Int→Option Bool
 | 0,_,_,_,_,_,_,_,_,_,_,_=>none
 | k+1,p0,p1,p2,p3,p4,p5,p6,l1,l2,x290_,xs288_=>(if (x290_:Int)<(l2.length:Int) then (if 0≤(x290_:Int) then (if xs288_.length<17592186044416 then sr21_Rest.l4 k p0 p1 p2 p3 p4 p5 p6 l1 l2 (IntKind.wrap .i64 (x290_+1)) (xs288_ ++ [(rd_T47 l2 x290_).f0]) else none) else none) else sr21_Rest.l5 k p0 p1 p2 p3 p4 p5 p6 l1 xs288_ 1)
def sr21_Rest.l2:Nat→Int→Int→Int→Int→Int→Int→Int→List Int→List S47→Int→Option Bool
 | 0,_,_,_,_,_,_,_,_,_,_=>none
 | k+1,p0,p1,p2,p3,p4,p5,p6,l1,l2,x175_=>(if (x175_:Int)<p3 then (sr21_Level.f k p0 p1 p2 p3 p4 p5 p6 l1 x175_).bind fun (t223_,t224_)=>sr21_Rest.l3 k p0 p1 p2 p3 p4 p5 p6 l1 l2 x175_ t223_ 0 else (sr21_Level.f k p0 p1 p2 p3 p4 p5 p6 l1 0).bind fun (t274_,t275_)=>sr21_Rest.l4 k p0 p1 p2 p3 p4 p5 p6 l1 l2 0 t274_)
def sr21_Rest.l0:Nat→Int→Int→Int→Int→Int→Int→Int→List Int→List S47→Int→Option Bool
 | 0,_,_,_,_,_,_,_,_,_,_=>none
 | k+1,p0,p1,p2,p3,p4,p5,p6,l1,l2,x50_=>(if (x50_:Int)<p0 then sr21_Rest.l1 k p0 p1 p2 p3 p4 p5 p6 l1 l2 x50_ 0 else sr21_Rest.l2 k p0 p1 p2 p3 p4 p5 p6 l1 l2 0)
end
def sr21_Rest.f (k:Nat) (p0:Int) (p1:Int) (p2:Int) (p3:Int) (p4:Int) (p5:Int) (p6:Int) (l1:List Int) (l2:List S47):Option Bool:=(sr21_Right.f k p0 p1 p2 p3 p4 p5 p6 l1).bind fun t10_=>(if t10_=true then sr21_Rest.l0 k p0 p1 p2 p3 p4 p5 p6 l1 l2 0 else some false)
set_option maxRecDepth 100000 in
set_option maxHeartbeats 4000000 in
theorem sr21_Rest_con (k:Nat) (p0:Int) (p1:Int) (p2:Int) (p3:Int) (p4:Int) (p5:Int) (p6:Int) (A1:Option Addr) (c1:Nat) (l1:List Int) (A2:Option Addr) (c2:Nat) (l2:List S47) (r0:Bool) (h:sr21_Rest.f k p0 p1 p2 p3 p4 p5 p6 l1 l2=some r0) (w0:World) (Hs:List Nat):Con Tryz.prog 11 #[.agg (cfA p0 p1 p2 p3 p4 p5 p6),.slice A1 l1.length c1,.slice A2 l2.length c2] w0 Hs [.f (KU A1 c1 l1),.f (KC k47 A2 c2 l2)] (fun X=>X (.bool r0) []):=by
 refine con_enter (c:=bodyOf Tryz.f11) Tryz.func11 rfl (m:=119) rfl rfl rfl ?_
 intro X hX _
 have H:=h
 unfold sr21_Rest.f at H
 clear h
 refine c_seq rfl ?_
 refine r_ordb (l:=[0,1]) rfl (by kernel_rfl) ?_
 refine s_e rfl rfl (e_box rfl rfl rfl rfl) ?_
 intro b2_
 refine sA rfl ?_
 refine sE rfl ?_
 refine c_seq rfl ?_
 refine r_ordb (l:=[0,1,2,3]) rfl (by kernel_rfl) ?_
 refine sV rfl (vLA (lfA p0 p1 p2 p3 p4 p5 p6) 0 Tryz.underlying23 SZ23 rfl) ?_
 refine sM rfl ?_
 obtain ⟨t10_,e11_,H⟩:=bind_s H
 refine s_e rfl rfl (eC [1] #[.agg (cfA p0 p1 p2 p3 p4 p5 p6),.slice A1 l1.length c1] Tryz.func42 (by decide) rfl (fun w ht=>sr21_Right_con _ p0 p1 p2 p3 p4 p5 p6 A1 c1 l1 t10_ e11_ w _)) ?_
 refine sV rfl (v_not rfl rfl) ?_
 refine sQ ?_
 rcases Bool.eq_false_or_eq_true (!t10_) with h12_ | h12_
 ·
  replace H:=ite_n (not_t (bnot_t h12_)) H
  refine cT h12_ rfl ?_
  refine c_seq rfl ?_
  refine r_ordb (l:=[0]) rfl (by kernel_rfl) ?_
  refine sA rfl ?_
  refine sQ ?_
  refine c_ret rfl ?_
  refine q_then_ret ?_
  have e_:=Option.some.inj H
  subst e_
  exact q_ret (vs:=[.bool false]) rfl (.tmp rfl .nil) [] rfl (by decide) (hX)
 ·
  replace H:=ite_y (bnot_f h12_) H
  refine cF h12_ rfl ?_
  refine kQ rfl ?_
  refine c_seq rfl ?_
  refine c_seq rfl ?_
  refine r_ordb (l:=[0]) rfl (by kernel_rfl) ?_
  refine sA rfl ?_
  refine sQ ?_
  refine c_block rfl ?_
  refine c_loop (σ:=Nat × Int) (fun (k,x50_)=>sr21_Rest.l0 k p0 p1 p2 p3 p4 p5 p6 l1 l2 x50_=some r0) (fun (k,x50_)=>k) (fun (k,x50_)=>[(1,.slice A1 l1.length c1),(2,.slice A2 l2.length c2),(3,.P b2_),(6,.bool false),(7,.I x50_)]) (fun (k,x50_)=>[.b b2_ (.cells (cfA p0 p1 p2 p3 p4 p5 p6) 23 (0,0)),.f (KU A1 c1 l1),.f (KC k47 A2 c2 l2)]) (k,0) [0,1,2] rfl H (subF_spec ⟨rfl,rfl,rfl,rfl,rfl,trivial⟩) rfl (by decide) ?_
  rintro ⟨k0_,x50_⟩ hs86_
  clear H
  have H:sr21_Rest.l0 k0_ p0 p1 p2 p3 p4 p5 p6 l1 l2 x50_=some r0:=hs86_
  try clear hs86_
  rcases k0_ with _ | k0_
  ·exact none_no (show none=_ from H)
  unfold sr21_Rest.l0 at H
  have hko_0:k0_≤k0_:=Nat.le_refl _
  refine c_seq rfl ?_
  refine c_seq rfl ?_
  refine r_ordb (l:=[0,1,2,3]) rfl (by kernel_rfl) ?_
  refine sM rfl ?_
  refine sV rfl (vF Tryz.underlying23 SZ3 rfl) ?_
  refine sV rfl (vL 0 Tryz.underlying3 rfl) ?_
  refine sR rfl ?_
  refine sQ ?_
  rcases Bool.eq_false_or_eq_true (decide ((x50_:Int)<p0)) with h90_ | h90_
  ·
   replace H:=ite_y (dec_t h90_) H
   refine cT h90_ rfl ?_
   refine kQ rfl ?_
   refine c_seq rfl ?_
   refine c_block rfl ?_
   refine c_seq rfl ?_
   refine r_ordb (l:=[0]) rfl (by kernel_rfl) ?_
   refine sA rfl ?_
   refine sQ ?_
   refine c_block rfl ?_
   refine c_loop (σ:=Nat × Int) (fun (k,x102_)=>sr21_Rest.l1 k p0 p1 p2 p3 p4 p5 p6 l1 l2 x50_ x102_=some r0∧k≤k0_) (fun (k,x102_)=>k) (fun (k,x102_)=>[(1,.slice A1 l1.length c1),(2,.slice A2 l2.length c2),(3,.P b2_),(6,.bool false),(7,.I x50_),(23,.I x50_),(24,.P b2_),(25,.I p0),(26,.bool (decide ((x50_:Int)<p0))),(8,.I x102_)]) (fun (k,x102_)=>[.b b2_ (.cells (cfA p0 p1 p2 p3 p4 p5 p6) 23 (0,0)),.f (KU A1 c1 l1),.f (KC k47 A2 c2 l2)]) (k0_,0) [0,1,2] rfl ⟨H,hko_0⟩ (subF_spec ⟨rfl,rfl,rfl,rfl,rfl,rfl,rfl,rfl,rfl,rfl,trivial⟩) rfl (by decide) ?_
   rintro ⟨k1_,x102_⟩ hs113_
   clear H
   obtain ⟨H,hko_0⟩:sr21_Rest.l1 k1_ p0 p1 p2 p3 p4 p5 p6 l1 l2 x50_ x102_=some r0∧k1_≤k0_:=hs113_
   try clear hs113_
   rcases k1_ with _ | k1_
   ·exact none_no (show none=_ from H)
   unfold sr21_Rest.l1 at H
   replace hko_0:=Nat.le_of_succ_le hko_0
   have hko_1:k1_≤k1_:=Nat.le_refl _
   refine c_seq rfl ?_
   refine c_seq rfl ?_
   refine r_ordb (l:=[0,1,2,3]) rfl (by kernel_rfl) ?_
   refine sM rfl ?_
   refine sV rfl (vF Tryz.underlying23 SZ3 rfl) ?_
   refine sV rfl (vL 0 Tryz.underlying3 rfl) ?_
   refine sR rfl ?_
   refine sQ ?_
   rcases Bool.eq_false_or_eq_true (decide ((x102_:Int)<p1)) with h117_ | h117_
   ·
    replace H:=ite_y (dec_t h117_) H
    refine cT h117_ rfl ?_
    refine kQ rfl ?_
    refine c_seq rfl ?_
    refine c_block rfl ?_
    refine c_seq rfl ?_
    refine r_ordb (l:=[0,1,2,3,4,5,6,7]) rfl (by kernel_rfl) ?_
    refine sM rfl ?_
    refine sV rfl (vLA (lfA p0 p1 p2 p3 p4 p5 p6) 0 Tryz.underlying23 SZ23 rfl) ?_
    refine sM rfl ?_
    refine sM rfl ?_
    obtain ⟨t130_,e131_,H⟩:=bind_s H
    refine s_e rfl rfl (eC [] #[.agg (cfA p0 p1 p2 p3 p4 p5 p6),.I x50_,.I x102_] Tryz.func43 (by decide) rfl (fun w ht=>sr04_Reserved_con p0 p1 p2 p3 p4 p5 p6 x50_ x102_ t130_ e131_ w _)) ?_
    obtain ⟨n132_,H⟩:=ite_no H
    obtain ⟨n133_,H⟩:=ite_no H
    refine sV rfl (v_iaK (i:=1) rfl Tryz.underlying24 SZ41 rfl rfl rfl rfl n132_ n133_) ?_
    refine sV rfl (v_ldK (v := .U (rd l1 t130_)) 0 1 rfl Tryz.underlying41 rfl rfl rfl rfl n132_ n133_ (fun w K h=>h)) ?_
    refine sR rfl ?_
    refine sQ ?_
    rcases Bool.eq_false_or_eq_true ((rd l1 t130_:Int) != 0) with h134_ | h134_
    ·
     replace H:=ite_n (ibne_t h134_) H
     refine cT h134_ rfl ?_
     refine c_seq rfl ?_
     refine r_ordb (l:=[0]) rfl (by kernel_rfl) ?_
     refine sA rfl ?_
     refine sQ ?_
     refine c_ret rfl ?_
     refine q_block_ret ?_
     refine q_then_ret ?_
     refine q_then_ret ?_
     refine q_block_ret ?_
     refine q_block_ret ?_
     refine q_then_ret ?_
     refine q_then_ret ?_
     refine q_block_ret ?_
     refine q_then_ret ?_
     have e_:=Option.some.inj H
     subst e_
     exact q_ret (vs:=[.bool false]) rfl (.tmp rfl .nil) [] rfl (by decide) (hX)
    ·
     replace H:=ite_y (ibne_f h134_) H
     refine cF h134_ rfl ?_
     refine c_skip rfl ?_
     refine q_block ?_
     refine q_seq ?_
     refine r_ordb (l:=[0,1,2]) rfl (by kernel_rfl) ?_
     refine sM rfl ?_
     refine sR rfl ?_
     refine sA rfl ?_
     refine s_end ?_
     exact q_again (k1_,IntKind.wrap .i64 (x102_+1)) [0,1,2] ⟨H,hko_0⟩ (Nat.lt_succ_of_le hko_1) (subF_spec ⟨rfl,rfl,rfl,rfl,rfl,rfl,rfl,rfl,rfl,rfl,trivial⟩) rfl (by decide)
   ·
    replace H:=ite_n (dec_f h117_) H
    refine cF h117_ rfl ?_
    refine c_exit (i:=2) rfl rfl ?_
    refine q_then_exit ?_
    refine q_then_exit ?_
    refine q_block_here rfl ?_
    refine q_block ?_
    refine q_seq ?_
    refine r_ordb (l:=[0,1,2]) rfl (by kernel_rfl) ?_
    refine sM rfl ?_
    refine sR rfl ?_
    refine sA rfl ?_
    refine s_end ?_
    exact q_again (k1_,IntKind.wrap .i64 (x50_+1)) [0,1,2] H (Nat.lt_succ_of_le hko_0) (subF_spec ⟨rfl,rfl,rfl,rfl,rfl,trivial⟩) rfl (by decide)
  ·
   replace H:=ite_n (dec_f h90_) H
   refine cF h90_ rfl ?_
   refine c_exit (i:=0) rfl rfl ?_
   refine q_then_exit ?_
   refine q_then_exit ?_
   refine q_block_here rfl ?_
   refine q_seq ?_
   refine c_seq rfl ?_
   refine c_seq rfl ?_
   refine r_ordb (l:=[0]) rfl (by kernel_rfl) ?_
   refine sA rfl ?_
   refine sQ ?_
   refine c_block rfl ?_
   refine c_loop (σ:=Nat × Int) (fun (k,x175_)=>sr21_Rest.l2 k p0 p1 p2 p3 p4 p5 p6 l1 l2 x175_=some r0) (fun (k,x175_)=>k) (fun (k,x175_)=>[(1,.slice A1 l1.length c1),(2,.slice A2 l2.length c2),(3,.P b2_),(6,.bool false),(9,.I x175_)]) (fun (k,x175_)=>[.b b2_ (.cells (cfA p0 p1 p2 p3 p4 p5 p6) 23 (0,0)),.f (KU A1 c1 l1),.f (KC k47 A2 c2 l2)]) (k0_,0) [0,1,2] rfl H (subF_spec ⟨rfl,rfl,rfl,rfl,rfl,trivial⟩) rfl (by decide) ?_
   rintro ⟨k2_,x175_⟩ hs212_
   clear H
   have H:sr21_Rest.l2 k2_ p0 p1 p2 p3 p4 p5 p6 l1 l2 x175_=some r0:=hs212_
   try clear hs212_
   rcases k2_ with _ | k2_
   ·exact none_no (show none=_ from H)
   unfold sr21_Rest.l2 at H
   have hko_2:k2_≤k2_:=Nat.le_refl _
   refine c_seq rfl ?_
   refine c_seq rfl ?_
   refine r_ordb (l:=[0,1,2,3]) rfl (by kernel_rfl) ?_
   refine sM rfl ?_
   refine sV rfl (vF Tryz.underlying23 SZ3 rfl) ?_
   refine sV rfl (vL 0 Tryz.underlying3 rfl) ?_
   refine sR rfl ?_
   refine sQ ?_
   rcases Bool.eq_false_or_eq_true (decide ((x175_:Int)<p3)) with h216_ | h216_
   ·
    replace H:=ite_y (dec_t h216_) H
    refine cT h216_ rfl ?_
    refine kQ rfl ?_
    refine c_seq rfl ?_
    refine c_block rfl ?_
    refine c_seq rfl ?_
    refine r_ordb (l:=[0,1,2,3,4,5,6,7,8]) rfl (by kernel_rfl) ?_
    refine sV rfl (vLA (lfA p0 p1 p2 p3 p4 p5 p6) 0 Tryz.underlying23 SZ23 rfl) ?_
    refine sM rfl ?_
    refine sM rfl ?_
    obtain ⟨⟨t223_,t224_⟩,e225_,H⟩:=bind_s H
    refine s_e rfl rfl (eC [1] #[.agg (cfA p0 p1 p2 p3 p4 p5 p6),.slice A1 l1.length c1,.I x175_] Tryz.func16 (by decide) rfl (fun w ht=>sr21_Level_con _ p0 p1 p2 p3 p4 p5 p6 A1 c1 l1 x175_ t223_ t224_ e225_ w _)) ?_
    intro A226_ c227_
    refine sM rfl ?_
    refine sV rfl (v_ext rfl rfl rfl) ?_
    refine sV rfl (v_ext rfl rfl rfl) ?_
    refine sA rfl ?_
    refine sA rfl ?_
    refine sE rfl ?_
    refine r_ordb (l:=[0]) rfl (by kernel_rfl) ?_
    refine sA rfl ?_
    refine sQ ?_
    refine c_block rfl ?_
    refine c_loop (σ:=Nat × Int) (fun (k,x236_)=>sr21_Rest.l3 k p0 p1 p2 p3 p4 p5 p6 l1 l2 x175_ t223_ x236_=some r0∧k≤k2_) (fun (k,x236_)=>k) (fun (k,x236_)=>[(1,.slice A1 l1.length c1),(2,.slice A2 l2.length c2),(3,.P b2_),(6,.bool false),(9,.I x175_),(43,.I x175_),(44,.pointer (some ⟨b2_,3,none⟩)),(45,.I p3),(46,.bool (decide ((x175_:Int)<p3))),(50,.agg (cfA p0 p1 p2 p3 p4 p5 p6)),(51,.slice A1 l1.length c1),(52,.I x175_),(53,.tuple #[.slice A226_ t223_.length c227_,.U t224_]),(49,.tuple #[.slice A226_ t223_.length c227_,.U t224_]),(54,.slice A226_ t223_.length c227_),(55,.U t224_),(10,.slice A226_ t223_.length c227_),(12,.I x236_)]) (fun (k,x236_)=>[.f (KU A226_ c227_ t223_),.b b2_ (.cells (cfA p0 p1 p2 p3 p4 p5 p6) 23 (0,0)),.f (KU A1 c1 l1),.f (KC k47 A2 c2 l2)]) (k2_,0) [0,1,2,3] rfl ⟨H,hko_2⟩ (subF_spec ⟨rfl,rfl,rfl,rfl,rfl,rfl,rfl,rfl,rfl,rfl,rfl,rfl,rfl,rfl,rfl,rfl,rfl,rfl,trivial⟩) rfl (by decide) ?_
    rintro ⟨k3_,x236_⟩ hs246_
    clear H
    obtain ⟨H,hko_2⟩:sr21_Rest.l3 k3_ p0 p1 p2 p3 p4 p5 p6 l1 l2 x175_ t223_ x236_=some r0∧k3_≤k2_:=hs246_
    try clear hs246_
    rcases k3_ with _ | k3_
    ·exact none_no (show none=_ from H)
    unfold sr21_Rest.l3 at H
    replace hko_2:=Nat.le_of_succ_le hko_2
    have hko_3:k3_≤k3_:=Nat.le_refl _
    refine c_seq rfl ?_
    refine c_seq rfl ?_
    refine r_ordb (l:=[0,1,2,3]) rfl (by kernel_rfl) ?_
    refine sM rfl ?_
    refine sM rfl ?_
    refine sV rfl (v_len rfl rfl rfl Tryz.underlying24 rfl rfl) ?_
    refine sR rfl ?_
    refine sQ ?_
    rcases Bool.eq_false_or_eq_true (decide ((x236_:Int)<(t223_.length:Int))) with h250_ | h250_
    ·
     replace H:=ite_y (dec_t h250_) H
     refine cT h250_ rfl ?_
     refine kQ rfl ?_
     refine c_seq rfl ?_
     refine c_block rfl ?_
     refine c_seq rfl ?_
     obtain ⟨n261_,H⟩:=ite_no H
     obtain ⟨t262_,e263_,H⟩:=bind_s H
     refine r_any [.f (KU A226_ c227_ t223_),.b b2_ (.cells (cfA p0 p1 p2 p3 p4 p5 p6) 23 (0,0)),.f (KU A1 c1 l1),.f (KC k47 A2 c2 l2)] (by kernel_rfl) rfl (by kernel_rfl) (mem_pick (idx:=[0,1,2,3]) rfl) ?_
     refine aV 0 rfl (by kernel_rfl) (vLA (lfA p0 p1 p2 p3 p4 p5 p6) 1 Tryz.underlying23 SZ23 rfl) ?_
     refine aV 1 rfl (by kernel_rfl) (vM rfl) ?_
     refine aV 2 rfl (by kernel_rfl) (vM rfl) ?_
     refine aV 3 rfl (by kernel_rfl) (vM rfl) ?_
     refine aV 4 rfl (by kernel_rfl) (v_iaK (i:=0) rfl Tryz.underlying24 SZ41 rfl rfl rfl rfl n261_ (dec_t h250_)) ?_
     refine aV 5 rfl (by kernel_rfl) (v_ldK (v := .U (rd t223_ x236_)) 0 0 rfl Tryz.underlying41 rfl rfl rfl rfl n261_ (dec_t h250_) (fun w K h=>h)) ?_
     refine a_1 (i:=6) (by kernel_rfl) ?_
     refine i_e rfl rfl (eC [2] #[.agg (cfA p0 p1 p2 p3 p4 p5 p6),.slice A1 l1.length c1,.U (rd t223_ x236_)] Tryz.func44 (by decide) rfl (fun w ht=>sr21_settled_con _ p0 p1 p2 p3 p4 p5 p6 A1 c1 l1 (rd t223_ x236_) t262_ e263_ w _)) ?_
     refine ⟨(mem_pick (idx:=[0,1,2,3]) rfl),?_⟩
     refine aV 7 rfl (by kernel_rfl) (v_not rfl rfl) ?_
     refine a_end (by kernel_rfl) ?_
     refine q_seq ?_
     rcases Bool.eq_false_or_eq_true (!t262_) with h264_ | h264_
     ·
      replace H:=ite_n (not_t (bnot_t h264_)) H
      refine cT h264_ rfl ?_
      refine c_seq rfl ?_
      refine r_ordb (l:=[0]) rfl (by kernel_rfl) ?_
      refine sA rfl ?_
      refine sQ ?_
      refine c_ret rfl ?_
      refine q_block_ret ?_
      refine q_then_ret ?_
      refine q_then_ret ?_
      refine q_block_ret ?_
      refine q_block_ret ?_
      refine q_then_ret ?_
      refine q_then_ret ?_
      refine q_block_ret ?_
      refine q_then_ret ?_
      have e_:=Option.some.inj H
      subst e_
      exact q_ret (vs:=[.bool false]) rfl (.tmp rfl .nil) [] rfl (by decide) (hX)
     ·
      replace H:=ite_y (bnot_f h264_) H
      refine cF h264_ rfl ?_
      refine c_skip rfl ?_
      refine q_block ?_
      refine q_seq ?_
      refine r_ordb (l:=[0,1,2]) rfl (by kernel_rfl) ?_
      refine sM rfl ?_
      refine sR rfl ?_
      refine sA rfl ?_
      refine s_end ?_
      exact q_again (k3_,IntKind.wrap .i64 (x236_+1)) [0,1,2,3] ⟨H,hko_2⟩ (Nat.lt_succ_of_le hko_3) (subF_spec ⟨rfl,rfl,rfl,rfl,rfl,rfl,rfl,rfl,rfl,rfl,rfl,rfl,rfl,rfl,rfl,rfl,rfl,rfl,trivial⟩) rfl (by decide)
    ·
     replace H:=ite_n (dec_f h250_) H
     refine cF h250_ rfl ?_
     refine c_exit (i:=6) rfl rfl ?_
     refine q_then_exit ?_
     refine q_then_exit ?_
     refine q_block_here rfl ?_
     refine q_block ?_
     refine q_seq ?_
     refine r_ordb (l:=[0,1,2]) rfl (by kernel_rfl) ?_
     refine sM rfl ?_
     refine sR rfl ?_
     refine sA rfl ?_
     refine s_end ?_
     exact q_again (k3_,IntKind.wrap .i64 (x175_+1)) [1,2,3] H (Nat.lt_succ_of_le hko_2) (subF_spec ⟨rfl,rfl,rfl,rfl,rfl,trivial⟩) rfl (by decide)
   ·
    replace H:=ite_n (dec_f h216_) H
    refine cF h216_ rfl ?_
    refine c_exit (i:=4) rfl rfl ?_
    refine q_then_exit ?_
    refine q_then_exit ?_
    refine q_block_here rfl ?_
    refine q_seq ?_
    refine c_seq rfl ?_
    refine r_ordb (l:=[0,1,2,3,4,5,6,7]) rfl (by kernel_rfl) ?_
    refine sV rfl (vLA (lfA p0 p1 p2 p3 p4 p5 p6) 0 Tryz.underlying23 SZ23 rfl) ?_
    refine sM rfl ?_
    obtain ⟨⟨t274_,t275_⟩,e276_,H⟩:=bind_s H
    refine s_e rfl rfl (eC [1] #[.agg (cfA p0 p1 p2 p3 p4 p5 p6),.slice A1 l1.length c1,.I 0] Tryz.func16 (by decide) rfl (fun w ht=>sr21_Level_own _ p0 p1 p2 p3 p4 p5 p6 A1 c1 l1 0 t274_ t275_ e276_ w _)) ?_
    intro ro277_ hr278_
    refine sM rfl ?_
    refine sV rfl (v_ext rfl rfl rfl) ?_
    refine sV rfl (v_ext rfl rfl rfl) ?_
    refine sA rfl ?_
    refine sA rfl ?_
    refine sE rfl ?_
    refine c_seq rfl ?_
    refine r_ordb (l:=[0]) rfl (by kernel_rfl) ?_
    refine sA rfl ?_
    refine sQ ?_
    refine c_block rfl ?_
    refine c_loop (σ:=Nat × Int × Ro × List Int) (fun (k,x290_,ro287_,xs288_)=>sr21_Rest.l4 k p0 p1 p2 p3 p4 p5 p6 l1 l2 x290_ xs288_=some r0∧ORow 1 (fun x=>[.U x]) ro287_ xs288_) (fun (k,x290_,ro287_,xs288_)=>k) (fun (k,x290_,ro287_,xs288_)=>[(1,.slice A1 l1.length c1),(2,.slice A2 l2.length c2),(3,.P b2_),(6,.bool false),(13,.slice (OA ro287_) xs288_.length (OC ro287_)),(15,.I x290_)]) (fun (k,x290_,ro287_,xs288_)=>[OE 41 ro287_,.b b2_ (.cells (cfA p0 p1 p2 p3 p4 p5 p6) 23 (0,0)),.f (KU A1 c1 l1),.f (KC k47 A2 c2 l2)]) (k2_,0,ro277_,t274_) [0,1,2,3] rfl ⟨H,hr278_⟩ (subF_spec ⟨rfl,rfl,rfl,rfl,rfl,rfl,trivial⟩) rfl (by decide) ?_
    rintro ⟨k4_,x290_,ro287_,xs288_⟩ hs300_
    clear H
    obtain ⟨H,hr289_⟩:sr21_Rest.l4 k4_ p0 p1 p2 p3 p4 p5 p6 l1 l2 x290_ xs288_=some r0∧ORow 1 (fun x=>[.U x]) ro287_ xs288_:=hs300_
    try clear hs300_
    rcases k4_ with _ | k4_
    ·exact none_no (show none=_ from H)
    unfold sr21_Rest.l4 at H
    have hko_4:k4_≤k4_:=Nat.le_refl _
    refine c_seq rfl ?_
    refine c_seq rfl ?_
    refine r_ordb (l:=[0,1,2,3]) rfl (by kernel_rfl) ?_
    refine sM rfl ?_
    refine sM rfl ?_
    refine sV rfl (v_len rfl rfl rfl Tryz.underlying25 rfl rfl) ?_
    refine sR rfl ?_
    refine sQ ?_
    rcases Bool.eq_false_or_eq_true (decide ((x290_:Int)<(l2.length:Int))) with h304_ | h304_
    ·
     replace H:=ite_y (dec_t h304_) H
     refine cT h304_ rfl ?_
     refine kQ rfl ?_
     refine c_seq rfl ?_
     refine c_block rfl ?_
     refine r_ordb (l:=[0,1,2,3,4,5,6,7,8]) rfl (by kernel_rfl) ?_
     refine sM rfl ?_
     refine sM rfl ?_
     refine sM rfl ?_
     obtain ⟨n312_,H⟩:=ite_no H
     refine sV rfl (v_iaK (i:=3) rfl Tryz.underlying25 SZ47 rfl rfl rfl rfl n312_ (dec_t h304_)) ?_
     refine sV rfl (v_fax rfl Tryz.underlying47 rfl SZ41 rfl) ?_
     refine sV rfl (v_ldKf (v := .U ((rd_T47 l2 x290_).f0)) z47 [.U ((rd_T47 l2 x290_).f0),.U ((rd_T47 l2 x290_).f1),.U ((rd_T47 l2 x290_).f2)] 3 rfl Tryz.underlying41 rfl rfl rfl rfl n312_ (dec_t h304_) (fun w K h=>k47_open h) rfl) ?_
     refine s_e rfl rfl (e_bslice #[.U ((rd_T47 l2 x290_).f0)] (.U 0) rfl rfl rfl Tryz.underlying24 SZ41 ZR41 (by decide) rfl (by kernel_rfl)) ?_
     intro b313_
     obtain ⟨n314_,H⟩:=ite_no H
     refine s_e rfl rfl (e_appO (enc:=(fun x=>[.U x])) (v:=((rd_T47 l2 x290_).f0)) (xs:=xs288_) (ro:=ro287_) (z:=(.U 0)) (m:=1) (bytes:=8) (i:=0) (j:=1) rfl rfl rfl rfl rfl rfl Tryz.underlying24 (by kernel_rfl) rfl (by decide) rfl rfl hr289_ rfl rfl rfl rfl (by simp [Value.oneCell']) (by omega) (by simp only [maxLen]; omega)) ?_
     intro ro315_ hr316_ sm317_
     refine sA rfl ?_
     refine s_end ?_
     refine q_block ?_
     refine q_seq ?_
     refine r_ordb (l:=[0,1,2]) rfl (by kernel_rfl) ?_
     refine sM rfl ?_
     refine sR rfl ?_
     refine sA rfl ?_
     refine s_end ?_
     exact q_again (k4_,IntKind.wrap .i64 (x290_+1),ro315_,(xs288_ ++ [(rd_T47 l2 x290_).f0])) [1,2,3,4] ⟨H,hr316_⟩ (Nat.lt_succ_of_le hko_4) (subF_spec ⟨rfl,rfl,rfl,rfl,rfl,rfl,trivial⟩) rfl (by decide)
    ·
     replace H:=ite_n (dec_f h304_) H
     refine cF h304_ rfl ?_
     refine c_exit (i:=8) rfl rfl ?_
     refine q_then_exit ?_
     refine q_then_exit ?_
     refine q_block_here rfl ?_
     refine q_seq ?_
     refine c_seq rfl ?_
     refine c_seq rfl ?_
     refine r_ordb (l:=[0]) rfl (by kernel_rfl) ?_
     refine sA rfl ?_
     refine sQ ?_
     refine c_block rfl ?_
     refine c_giveO (flat_int .u64) hr289_ [0,1,2,3] rfl (by decide) rfl ?_
     refine c_loop (σ:=Nat × Int) (fun (k,x355_)=>sr21_Rest.l5 k p0 p1 p2 p3 p4 p5 p6 l1 xs288_ x355_=some r0) (fun (k,x355_)=>k) (fun (k,x355_)=>[(1,.slice A1 l1.length c1),(3,.P b2_),(6,.bool false),(13,.slice (OA ro287_) xs288_.length (OC ro287_)),(16,.I x355_)]) (fun (k,x355_)=>[.f (KU (OA ro287_) (OC ro287_) xs288_),.b b2_ (.cells (cfA p0 p1 p2 p3 p4 p5 p6) 23 (0,0)),.f (KU A1 c1 l1),.f (KC k47 A2 c2 l2)]) (k4_,1) [0,1,2,3] rfl H (subF_spec ⟨rfl,rfl,rfl,rfl,rfl,trivial⟩) rfl (by decide) ?_
     rintro ⟨k5_,x355_⟩ hs374_
     clear H
     have H:sr21_Rest.l5 k5_ p0 p1 p2 p3 p4 p5 p6 l1 xs288_ x355_=some r0:=hs374_
     try clear hs374_
     rcases k5_ with _ | k5_
     ·exact none_no (show none=_ from H)
     unfold sr21_Rest.l5 at H
     have hko_5:k5_≤k5_:=Nat.le_refl _
     refine c_seq rfl ?_
     refine c_seq rfl ?_
     refine r_ordb (l:=[0,1,2,3]) rfl (by kernel_rfl) ?_
     refine sM rfl ?_
     refine sV rfl (vF Tryz.underlying23 SZ3 rfl) ?_
     refine sV rfl (vL 1 Tryz.underlying3 rfl) ?_
     refine sR rfl ?_
     refine sQ ?_
     rcases Bool.eq_false_or_eq_true (decide ((x355_:Int)≤p2)) with h378_ | h378_
     ·
      replace H:=ite_y (dec_t h378_) H
      refine cT h378_ rfl ?_
      refine kQ rfl ?_
      refine c_seq rfl ?_
      refine c_block rfl ?_
      refine c_seq rfl ?_
      refine r_ordb (l:=[0,1,2,3,4,5]) rfl (by kernel_rfl) ?_
      refine sV rfl (vLA (lfA p0 p1 p2 p3 p4 p5 p6) 1 Tryz.underlying23 SZ23 rfl) ?_
      refine sM rfl ?_
      refine sM rfl ?_
      refine sM rfl ?_
      obtain ⟨t397_,e398_,H⟩:=bind_s H
      refine s_e rfl rfl (eC [2,0] #[.agg (cfA p0 p1 p2 p3 p4 p5 p6),.slice A1 l1.length c1,.slice (OA ro287_) xs288_.length (OC ro287_),.I x355_] Tryz.func45 (by decide) rfl (fun w ht=>sr21_times_con _ p0 p1 p2 p3 p4 p5 p6 A1 c1 l1 (OA ro287_) (OC ro287_) xs288_ x355_ t397_ e398_ w _)) ?_
      refine sA rfl ?_
      refine sE rfl ?_
      refine r_ordb (l:=[0,1,2,3,4,5,6]) rfl (by kernel_rfl) ?_
      refine sV rfl (vLA (lfA p0 p1 p2 p3 p4 p5 p6) 1 Tryz.underlying23 SZ23 rfl) ?_
      refine sM rfl ?_
      refine sM rfl ?_
      obtain ⟨t403_,e404_,H⟩:=bind_s H
      refine s_e rfl rfl (eC [2] #[.agg (cfA p0 p1 p2 p3 p4 p5 p6),.slice A1 l1.length c1,.I x355_,.I 0] Tryz.func46 (by decide) rfl (fun w ht=>sr21_at_con p0 p1 p2 p3 p4 p5 p6 A1 c1 l1 x355_ 0 t403_ e404_ w _)) ?_
      obtain ⟨t405_,e406_,H⟩:=bind_s H
      refine s_e rfl rfl (eC [] #[.U t403_] Tryz.func14 (by decide) rfl (fun w ht=>sr02_State_con t403_ t405_ e406_ w _)) ?_
      refine sR rfl ?_
      refine sA rfl ?_
      refine sQ ?_
      obtain ⟨⟨j413_,j414_,j415_,j416_⟩,e417_,H⟩:=bind_s H
      refine c_join (β:=Unit) (fun _=>True) (fun _=>[(1,.slice A1 l1.length c1),(3,.P b2_),(6,.bool false),(13,.slice (OA ro287_) xs288_.length (OC ro287_)),(16,.I x355_),(90,.I x355_),(91,.pointer (some ⟨b2_,2,none⟩)),(92,.I p2),(93,.bool (decide ((x355_:Int)≤p2))),(96,.agg (cfA p0 p1 p2 p3 p4 p5 p6)),(97,.slice A1 l1.length c1),(98,.slice (OA ro287_) xs288_.length (OC ro287_)),(99,.I x355_),(100,.I t397_),(17,.I t397_),(101,.agg (cfA p0 p1 p2 p3 p4 p5 p6)),(102,.slice A1 l1.length c1),(103,.I x355_),(104,.U t403_),(105,.I t405_),(106,.bool ((t405_:Int) == 1)),(18,.bool ((t405_:Int) == 1)),(107,.I t397_),(108,.bool (decide ((t397_:Int)<0))),(109,.bool j413_),(112,.bool j414_),(113,.bool j415_),(118,.bool j416_)]) (fun _=>[.f (KU (OA ro287_) (OC ro287_) xs288_),.b b2_ (.cells (cfA p0 p1 p2 p3 p4 p5 p6) 23 (0,0)),.f (KU A1 c1 l1),.f (KC k47 A2 c2 l2)]) rfl (fun _ _=>?_) (fun J_=>?_)
      ·
       rcases Bool.eq_false_or_eq_true j416_ with h418_ | h418_
       ·
        subst h418_
        replace H:=ite_y rfl H
        refine c_cond1 rfl rfl ?_
        refine c_seq rfl ?_
        refine r_ordb (l:=[0]) rfl (by kernel_rfl) ?_
        refine sA rfl ?_
        refine sQ ?_
        refine c_ret rfl ?_
        refine q_block_ret ?_
        refine q_then_ret ?_
        refine q_then_ret ?_
        refine q_block_ret ?_
        refine q_then_ret ?_
        have e_:=Option.some.inj H
        subst e_
        exact q_ret (vs:=[.bool false]) rfl (.tmp rfl .nil) [] rfl (by decide) (hX)
       ·
        subst h418_
        replace H:=ite_n (by decide) H
        refine c_cond0 rfl rfl ?_
        refine c_skip rfl ?_
        refine q_block ?_
        refine q_seq ?_
        refine r_ordb (l:=[0,1,2]) rfl (by kernel_rfl) ?_
        refine sM rfl ?_
        refine sR rfl ?_
        refine sA rfl ?_
        refine s_end ?_
        exact q_again (k5_,IntKind.wrap .i64 (x355_+1)) [0,1,2,3] H (Nat.lt_succ_of_le hko_5) (subF_spec ⟨rfl,rfl,rfl,rfl,rfl,trivial⟩) rfl (by decide)
      ·
       clear H
       have H:=e417_
       clear e417_
       refine r_ordb (l:=[0,1,2,3,4,5,6,7,8,9,10,11]) rfl (by kernel_rfl) ?_
       refine sM rfl ?_
       refine sR rfl ?_
       refine sM rfl ?_
       rcases Bool.eq_false_or_eq_true (decide ((t397_:Int)<0)) with h419_ | h419_
       ·
        replace H:=ite_y (dec_t h419_) H
        refine s_splitv (d:=109) (t:=decide ((t397_:Int)<0)) rfl (fun _=>?_) (fun h420_=>absurd (h420_.symm.trans h419_) (by decide))
        refine sN rfl ?_
        refine sN rfl ?_
        refine sP rfl ?_
        refine sM rfl ?_
        refine sN rfl ?_
        refine sN rfl ?_
        refine sN rfl ?_
        refine sN rfl ?_
        refine sP rfl ?_
        refine s_end ?_
        have hq_0:=Option.some.inj H
        obtain ⟨ee_0,hq_1⟩:=Prod.mk.inj hq_0
        obtain ⟨ee_1,hq_2⟩:=Prod.mk.inj hq_1
        obtain ⟨ee_2,hq_3⟩:=Prod.mk.inj hq_2
        subst ee_0
        subst ee_1
        subst ee_2
        subst hq_3
        exact q_seq (c_frame (subF_spec (by exact ⟨rfl,rfl,rfl,rfl,rfl,rfl,rfl,rfl,rfl,rfl,rfl,rfl,rfl,rfl,rfl,rfl,rfl,rfl,rfl,rfl,rfl,rfl,rfl,rfl,rfl,rfl,rfl,rfl,trivial⟩)) (c_take [0,1,2,3] rfl (by decide) (J_ () trivial)))
       ·
        replace H:=ite_n (dec_f h419_) H
        refine s_splitv (d:=109) (t:=decide ((t397_:Int)<0)) rfl (fun h421_=>absurd (h421_.symm.trans h419_) (by decide)) (fun _=>?_)
        refine sG rfl (vM rfl) ?_
        refine sG rfl (vR rfl) ?_
        refine sP rfl ?_
        refine sM rfl ?_
        rcases Bool.eq_false_or_eq_true (decide ((t397_:Int) > 1)) with h422_ | h422_
        ·
         replace H:=ite_y (dec_t h422_) H
         refine s_splitv (d:=113) (t:=decide ((t397_:Int) > 1)) rfl (fun _=>?_) (fun h423_=>absurd (h423_.symm.trans h422_) (by decide))
         refine sN rfl ?_
         refine sN rfl ?_
         refine sN rfl ?_
         refine sN rfl ?_
         refine sP rfl ?_
         refine s_end ?_
         have hq_0:=Option.some.inj H
         obtain ⟨ee_0,hq_1⟩:=Prod.mk.inj hq_0
         obtain ⟨ee_1,hq_2⟩:=Prod.mk.inj hq_1
         obtain ⟨ee_2,hq_3⟩:=Prod.mk.inj hq_2
         subst ee_0
         subst ee_1
         subst ee_2
         subst hq_3
         exact q_seq (c_frame (subF_spec (by exact ⟨rfl,rfl,rfl,rfl,rfl,rfl,rfl,rfl,rfl,rfl,rfl,rfl,rfl,rfl,rfl,rfl,rfl,rfl,rfl,rfl,rfl,rfl,rfl,rfl,rfl,rfl,rfl,rfl,trivial⟩)) (c_take [0,1,2,3] rfl (by decide) (J_ () trivial)))
        ·
         replace H:=ite_n (dec_f h422_) H
         refine s_splitv (d:=113) (t:=decide ((t397_:Int) > 1)) rfl (fun h424_=>absurd (h424_.symm.trans h422_) (by decide)) (fun _=>?_)
         refine sG rfl (vM rfl) ?_
         refine sG rfl (vM rfl) ?_
         refine sG rfl (vR rfl) ?_
         refine sG rfl (v_eqnB rfl Tryz.underlying4 rfl rfl) ?_
         refine sP rfl ?_
         refine s_end ?_
         have hq_0:=Option.some.inj H
         obtain ⟨ee_0,hq_1⟩:=Prod.mk.inj hq_0
         obtain ⟨ee_1,hq_2⟩:=Prod.mk.inj hq_1
         obtain ⟨ee_2,hq_3⟩:=Prod.mk.inj hq_2
         subst ee_0
         subst ee_1
         subst ee_2
         subst hq_3
         exact q_seq (c_frame (subF_spec (by exact ⟨rfl,rfl,rfl,rfl,rfl,rfl,rfl,rfl,rfl,rfl,rfl,rfl,rfl,rfl,rfl,rfl,rfl,rfl,rfl,rfl,rfl,rfl,rfl,rfl,rfl,rfl,rfl,rfl,trivial⟩)) (c_take [0,1,2,3] rfl (by decide) (J_ () trivial)))
     ·
      replace H:=ite_n (dec_f h378_) H
      refine cF h378_ rfl ?_
      refine c_exit (i:=10) rfl rfl ?_
      refine q_then_exit ?_
      refine q_then_exit ?_
      refine q_block_here rfl ?_
      refine q_seq ?_
      refine c_seq rfl ?_
      refine r_ordb (l:=[0]) rfl (by kernel_rfl) ?_
      refine sA rfl ?_
      refine sQ ?_
      refine c_ret rfl ?_
      have e_:=Option.some.inj H
      subst e_
      exact q_ret (vs:=[.bool true]) rfl (.tmp rfl .nil) [] rfl (by decide) (hX)
end Go.Eng
namespace Go.Eng
open Go.Proofs Go.RowKit Go.Proofs.YtgbcnokeaaabfaaGreatW.PrintWords
set_option linter.unusedVariables false
set_option linter.unusedSimpArgs false
def sr22_at.f (p0:Int) (p1:Int) (p2:Int) (p3:Int) (p4:Int) (p5:Int) (p6:Int) (l1:List Int) (a2:Int) (a3:Int):Option Int:=(sr04_Cell.f p0 p1 p2 p3 p4 p5 p6 a2 a3).bind fun t7_=>(if 0≤(t7_:Int) then (if (t7_:Int)<(l1.length:Int) then some (rd l1 t7_) else none) else none)
def sr02_Gen.f (a0:Int):Option Int:=(if (IntKind.wrap .u64 (Int.tdiv a0 4):Int) > 1073741823 then some 1073741823 else some (IntKind.wrap .i64 (IntKind.wrap .u64 (Int.tdiv a0 4))))
def sr02_After.f (a0:Int) (a1:Int):Option Int:=((if (a0:Int)<0 then some 0 else some a0):Option Int).bind fun j4_=>((if (a1:Int)<0 then some 0 else some a1):Option Int).bind fun j9_=>((if (j9_:Int) > 1073741823 then some 1073741823 else some j9_):Option Int).bind fun j14_=>(if (j4_:Int)≥j14_ then some (IntKind.wrap .u64 (IntKind.wrap .i64 ((IntKind.wrap .i64 (4 * j14_))+2))) else some (IntKind.wrap .u64 (IntKind.wrap .i64 ((IntKind.wrap .i64 (4 * j4_))+4))))
def sr22_with.f (p0:Int) (p1:Int) (p2:Int) (p3:Int) (p4:Int) (p5:Int) (p6:Int) (l1:List Int) (a2:Int) (a3:Int) (a4:Int):Option (List Int):=(if ([]:List Int).length+l1.length<17592186044416 then (sr04_Cell.f p0 p1 p2 p3 p4 p5 p6 a2 a3).bind fun t26_=>(if 0≤(t26_:Int) then (if (t26_:Int)<((([]:List Int) ++ l1).length:Int) then some ((([]:List Int) ++ l1).set (Int.toNat t26_) a4) else none) else none) else none)
def sr22_frees.f (p0:Int) (p1:Int) (p2:Int) (p3:Int) (p4:Int) (p5:Int) (p6:Int) (l1:List Int) (a2:Int):Option (List Int):=(sr22_at.f p0 p1 p2 p3 p4 p5 p6 l1 a2 0).bind fun t15_=>(sr02_Gen.f t15_).bind fun t17_=>(sr02_After.f t17_ p6).bind fun t19_=>(sr22_with.f p0 p1 p2 p3 p4 p5 p6 l1 a2 0 t19_).bind fun t21_=>some t21_
def sr22_lowest.l0:Nat→Int→Int→Int→Int→Int→Int→Int→List Int→Int→Int→Option Int
 | 0,_,_,_,_,_,_,_,_,_,_=>none
 | k+1,p0,p1,p2,p3,p4,p5,p6,l1,a2,x13_=>(if (x13_:Int)<a2 then (sr22_at.f p0 p1 p2 p3 p4 p5 p6 l1 x13_ 0).bind fun t41_=>(sr02_State.f t41_).bind fun t43_=>(if (t43_:Int)=0 then some x13_ else sr22_lowest.l0 k p0 p1 p2 p3 p4 p5 p6 l1 a2 (IntKind.wrap .i64 (x13_+1))) else some 0)
def sr22_lowest.f (k:Nat) (p0:Int) (p1:Int) (p2:Int) (p3:Int) (p4:Int) (p5:Int) (p6:Int) (l1:List Int) (a2:Int):Option Int:=sr22_lowest.l0 k p0 p1 p2 p3 p4 p5 p6 l1 a2 1
def sr01_Pack.f (a0:Int) (a1:Int) (a2:Bool):Option (Int × Bool):=((if (a0:Int)<0 then some true else (if (a0:Int) > 4294967295 then some true else (if (a1:Int)<0 then some true else some (decide ((a1:Int) > 1073741823))))):Option Bool).bind fun j22_=>(if j22_=true then some (0,false) else ((if a2=true then some (IntKind.wrap .u64 ((IntKind.wrap .u64 ((IntKind.wrap .u64 (9223372036854775808+(IntKind.wrap .u64 (4294967296 * (IntKind.wrap .u64 a1)))))+(IntKind.wrap .u64 a0)))+4611686018427387904)) else some (IntKind.wrap .u64 ((IntKind.wrap .u64 (9223372036854775808+(IntKind.wrap .u64 (4294967296 * (IntKind.wrap .u64 a1)))))+(IntKind.wrap .u64 a0)))):Option Int).bind fun j26_=>some (j26_,true))
def sr01_Of.f (a0:Int) (a1:Int):Option Int:=(sr01_Pack.f a0 a1 false).bind fun (t4_,t5_)=>some t4_
def sr22_moves.l0:Nat→Int→Int→Int→Int→Int→Int→Int→List Int→Int→Int→Int→Int→Int→List Int→Option ((List Int) × Int × Int)
 | 0,_,_,_,_,_,_,_,_,_,_,_,_,_,_=>none
 | k+1,p0,p1,p2,p3,p4,p5,p6,l1,a2,a3,t22_,t28_,x69_,l68_=>(if (x69_:Int)<(IntKind.wrap .i64 (6+p3)) then (sr22_at.f p0 p1 p2 p3 p4 p5 p6 l1 a2 x69_).bind fun t95_=>(sr22_with.f p0 p1 p2 p3 p4 p5 p6 l68_ a3 x69_ t95_).bind fun t97_=>sr22_moves.l0 k p0 p1 p2 p3 p4 p5 p6 l1 a2 a3 t22_ t28_ (IntKind.wrap .i64 (x69_+1)) t97_ else (sr22_frees.f p0 p1 p2 p3 p4 p5 p6 l68_ a2).bind fun t110_=>some (t110_,t22_,t28_))
def sr22_moves.f (k:Nat) (p0:Int) (p1:Int) (p2:Int) (p3:Int) (p4:Int) (p5:Int) (p6:Int) (l1:List Int) (a2:Int) (a3:Int):Option ((List Int) × Int × Int):=(sr22_at.f p0 p1 p2 p3 p4 p5 p6 l1 a2 0).bind fun t18_=>(sr02_Gen.f t18_).bind fun t20_=>(sr01_Of.f a2 t20_).bind fun t22_=>(sr22_at.f p0 p1 p2 p3 p4 p5 p6 l1 a3 0).bind fun t24_=>(sr02_Gen.f t24_).bind fun t26_=>(sr01_Of.f a3 t26_).bind fun t28_=>(sr22_at.f p0 p1 p2 p3 p4 p5 p6 l1 a3 0).bind fun t43_=>(sr02_Gen.f t43_).bind fun t45_=>(sr02_Taken.f t45_).bind fun t47_=>(sr22_with.f p0 p1 p2 p3 p4 p5 p6 l1 a3 0 t47_).bind fun t49_=>sr22_moves.l0 k p0 p1 p2 p3 p4 p5 p6 l1 a2 a3 t22_ t28_ 1 t49_
end Go.Eng
namespace Go.Eng
open Go.Proofs Go.RowKit Go.Proofs.YtgbcnokeaaabfaaGreatW.PrintWords
set_option linter.unusedVariables false
set_option linter.unusedSimpArgs false
def sr22_becomes.l0:Nat→List S79→Int→Int→Option Int
 | 0,_,_,_=>none
 | k+1,l0,a1,x7_=>(if (x7_:Int)<(l0.length:Int) then (if 0≤(x7_:Int) then (if ((rd_T79 l0 x7_).f0:Int)=a1 then some ((rd_T79 l0 x7_).f1) else sr22_becomes.l0 k l0 a1 (IntKind.wrap .i64 (x7_+1))) else none) else some a1)
def sr22_becomes.f (k:Nat) (l0:List S79) (a1:Int):Option Int:=sr22_becomes.l0 k l0 a1 0
mutual
def sr22_Cells.l3:Nat→Int→Int→Int→Int→Int→Int→Int→List S79→Int→Int→List Int→Option ((List Int) × Bool)
 | 0,_,_,_,_,_,_,_,_,_,_,_=>none
 | k+1,p0,p1,p2,p3,p4,p5,p6,xs108_,x267_,x365_,l364_=>(if (x365_:Int)<p3 then (sr22_at.f p0 p1 p2 p3 p4 p5 p6 l364_ x267_ (IntKind.wrap .i64 (6+x365_))).bind fun t395_=>(sr22_becomes.f k xs108_ t395_).bind fun t397_=>(sr22_with.f p0 p1 p2 p3 p4 p5 p6 l364_ x267_ (IntKind.wrap .i64 (6+x365_)) t397_).bind fun t399_=>sr22_Cells.l3 k p0 p1 p2 p3 p4 p5 p6 xs108_ x267_ (IntKind.wrap .i64 (x365_+1)) t399_ else sr22_Cells.l2 k p0 p1 p2 p3 p4 p5 p6 xs108_ (IntKind.wrap .i64 (x267_+1)) l364_)
def sr22_Cells.l2:Nat→Int→Int→Int→Int→Int→Int→Int→List S79→Int→List Int→Option ((List Int) × Bool)
 | 0,_,_,_,_,_,_,_,_,_,_=>none
 | k+1,p0,p1,p2,p3,p4,p5,p6,xs108_,x267_,l270_=>(if (x267_:Int)≤p2 then (sr22_at.f p0 p1 p2 p3 p4 p5 p6 l270_ x267_ 0).bind fun t342_=>(sr02_State.f t342_).bind fun t344_=>(if (t344_:Int)=1 then sr22_Cells.l3 k p0 p1 p2 p3 p4 p5 p6 xs108_ x267_ 0 l270_ else sr22_Cells.l2 k p0 p1 p2 p3 p4 p5 p6 xs108_ (IntKind.wrap .i64 (x267_+1)) l270_) else some (l270_,true))
def sr22_Cells.l1:Nat→Int→Int→Int→Int→Int→Int→Int→Int→List S79→List Int→Option ((List Int) × Bool)
 | 0,_,_,_,_,_,_,_,_,_,_=>none
 | k+1,p0,p1,p2,p3,p4,p5,p6,x110_,xs108_,l106_=>(if (x110_:Int)≤p2 then (sr22_lowest.f k p0 p1 p2 p3 p4 p5 p6 l106_ x110_).bind fun t170_=>((sr22_at.f p0 p1 p2 p3 p4 p5 p6 l106_ x110_ 0).bind fun t205_=>(sr02_State.f t205_).bind fun t207_=>(if (t207_:Int)=1 then some (t205_,t207_,(t207_:Int) == 1,true,decide ((t170_:Int) > 0)) else some (t205_,t207_,(t207_:Int) == 1,false,false)):Option (Int × Int × Bool × Bool × Bool)).bind fun (j179_,j180_,j181_,j182_,j183_)=>(if j183_=true then (sr22_moves.f k p0 p1 p2 p3 p4 p5 p6 l106_ x110_ t170_).bind fun (t193_,t194_,t195_)=>(if xs108_.length<8796093022208 then sr22_Cells.l1 k p0 p1 p2 p3 p4 p5 p6 (IntKind.wrap .i64 (x110_+1)) (xs108_ ++ [(⟨t194_,t195_⟩:S79)]) t193_ else none) else sr22_Cells.l1 k p0 p1 p2 p3 p4 p5 p6 (IntKind.wrap .i64 (x110_+1)) xs108_ l106_) else sr22_Cells.l2 k p0 p1 p2 p3 p4 p5 p6 xs108_ 0 l106_)
def sr22_Cells.l0:Nat→Int→Int→Int→Int→Int→Int→Int→List S47→Int→List Int→Option ((List Int) × Bool)
 | 0,_,_,_,_,_,_,_,_,_,_=>none
 | k+1,p0,p1,p2,p3,p4,p5,p6,l2,x39_,l38_=>(if (x39_:Int)<(l2.length:Int) then (if 0≤(x39_:Int) then (sr01_Index.f ((rd_T47 l2 x39_).f0)).bind fun t68_=>(sr22_frees.f p0 p1 p2 p3 p4 p5 p6 l38_ t68_).bind fun t70_=>sr22_Cells.l0 k p0 p1 p2 p3 p4 p5 p6 l2 (IntKind.wrap .i64 (x39_+1)) t70_ else none) else sr22_Cells.l1 k p0 p1 p2 p3 p4 p5 p6 1 ([]:List S79) l38_)
end
def sr22_Cells.f (k:Nat) (p0:Int) (p1:Int) (p2:Int) (p3:Int) (p4:Int) (p5:Int) (p6:Int) (l1:List Int) (l2:List S47):Option ((List Int) × Bool):=(sr21_Rest.f k p0 p1 p2 p3 p4 p5 p6 l1 l2).bind fun t10_=>(if t10_=true then (if ([]:List Int).length+l1.length<17592186044416 then sr22_Cells.l0 k p0 p1 p2 p3 p4 p5 p6 l2 0 (([]:List Int) ++ l1) else none) else some (([]:List Int),false))
def sr03_Same.l0:Nat→List Int→List Int→Int→Option Bool
 | 0,_,_,_=>none
 | k+1,l0,l1,x14_=>(if (x14_:Int)<(l0.length:Int) then (if 0≤(x14_:Int) then (if (x14_:Int)<(l1.length:Int) then (if (rd l0 x14_:Int)=(rd l1 x14_) then sr03_Same.l0 k l0 l1 (IntKind.wrap .i64 (x14_+1)) else some false) else none) else none) else some true)
def sr03_Same.f (k:Nat) (l0:List Int) (l1:List Int):Option Bool:=(if ((l0.length:Int):Int)=(l1.length:Int) then sr03_Same.l0 k l0 l1 0 else some false)
def sr02_Of.f (a0:Int):Option Int:=some (IntKind.wrap .u64 (Int.tdiv a0 2))
def sr07_With.l0:Nat→List S88→Int→Int→Bool→Int→List S88→Option (List S88)
 | 0,_,_,_,_,_,_=>none
 | k+1,l0,a1_0,a1_1,x31_,x32_,xs29_=>(if (x32_:Int)<(l0.length:Int) then ((if 0≤(x32_:Int) then (if ((rd_T88 l0 x32_).f0:Int)≥a1_0 then some (true,true,!x31_) else some (false,false,false)) else none):Option (Bool × Bool × Bool)).bind fun (j122_,j123_,j124_)=>(if j124_=true then (if xs29_.length<8796093022208 then (if 0≤(x32_:Int) then (if ((rd_T88 l0 x32_).f0:Int)=a1_0 then sr07_With.l0 k l0 a1_0 a1_1 true (IntKind.wrap .i64 (x32_+1)) (xs29_ ++ [(⟨a1_0,a1_1⟩:S88)]) else (if (xs29_ ++ [(⟨a1_0,a1_1⟩:S88)]).length<8796093022208 then sr07_With.l0 k l0 a1_0 a1_1 true (IntKind.wrap .i64 (x32_+1)) ((xs29_ ++ [(⟨a1_0,a1_1⟩:S88)]) ++ [(rd_T88 l0 x32_)]) else none)) else none) else none) else (if 0≤(x32_:Int) then (if ((rd_T88 l0 x32_).f0:Int)=a1_0 then sr07_With.l0 k l0 a1_0 a1_1 x31_ (IntKind.wrap .i64 (x32_+1)) xs29_ else (if xs29_.length<8796093022208 then sr07_With.l0 k l0 a1_0 a1_1 x31_ (IntKind.wrap .i64 (x32_+1)) (xs29_ ++ [(rd_T88 l0 x32_)]) else none)) else none)) else (if x31_=true then some xs29_ else (if xs29_.length<8796093022208 then some (xs29_ ++ [(⟨a1_0,a1_1⟩:S88)]) else none)))
def sr07_With.f (k:Nat) (l0:List S88) (a1_0:Int) (a1_1:Int):Option (List S88):=sr07_With.l0 k l0 a1_0 a1_1 false 0 ([]:List S88)
end Go.Eng
namespace Go.Eng
open Go.Proofs Go.RowKit Go.Proofs.YtgbcnokeaaabfaaGreatW.PrintWords
set_option linter.unusedVariables false
set_option linter.unusedSimpArgs false
def sr21_Map.l0:Nat→Int→Int→Int→Int→Int→Int→Int→List Int→List Int→Int→List S88→Option (List S88)
 | 0,_,_,_,_,_,_,_,_,_,_,_=>none
 | k+1,p0,p1,p2,p3,p4,p5,p6,l1,t8_,x36_,l35_=>(if (x36_:Int)<(t8_.length:Int) then (if 0≤(x36_:Int) then (sr01_Index.f (rd t8_ x36_)).bind fun t86_=>(sr21_at.f p0 p1 p2 p3 p4 p5 p6 l1 t86_ 2).bind fun t90_=>(sr02_Dead.f t90_).bind fun t94_=>(if t94_=true then sr21_Map.l0 k p0 p1 p2 p3 p4 p5 p6 l1 t8_ (IntKind.wrap .i64 (x36_+1)) l35_ else (sr21_at.f p0 p1 p2 p3 p4 p5 p6 l1 t86_ 1).bind fun t98_=>(sr02_Of.f t90_).bind fun t100_=>(sr07_With.f k l35_ t98_ t100_).bind fun t102_=>sr21_Map.l0 k p0 p1 p2 p3 p4 p5 p6 l1 t8_ (IntKind.wrap .i64 (x36_+1)) t102_) else none) else some l35_)
def sr21_Map.f (k:Nat) (p0:Int) (p1:Int) (p2:Int) (p3:Int) (p4:Int) (p5:Int) (p6:Int) (l1:List Int):Option (List S88):=(sr21_Level.f k p0 p1 p2 p3 p4 p5 p6 l1 0).bind fun (t8_,t9_)=>sr21_Map.l0 k p0 p1 p2 p3 p4 p5 p6 l1 t8_ 0 ([]:List S88)
def sr07_Equal.l0:Nat→List S88→List S88→Int→Option Bool
 | 0,_,_,_=>none
 | k+1,l0,l1,x14_=>(if (x14_:Int)<(l0.length:Int) then (if 0≤(x14_:Int) then (if (x14_:Int)<(l1.length:Int) then (if ((((rd_T88 l0 x14_).f0:Int) == ((rd_T88 l1 x14_).f0)) && ((((rd_T88 l0 x14_).f1:Int) == ((rd_T88 l1 x14_).f1))))=true then sr07_Equal.l0 k l0 l1 (IntKind.wrap .i64 (x14_+1)) else some false) else none) else none) else some true)
def sr07_Equal.f (k:Nat) (l0:List S88) (l1:List S88):Option Bool:=(if ((l0.length:Int):Int)=(l1.length:Int) then sr07_Equal.l0 k l0 l1 0 else some false)
def slot_After.f (a0:Int) (a1:Int):Option Int:=(if ((if (a0:Int)<0 then 0 else a0):Int)≥(if (0:Int)<(if (1073741823:Int)<a1 then 1073741823 else a1) then (if (1073741823:Int)<a1 then 1073741823 else a1) else 0) then (slot_word_packed.f 2 (if (0:Int)<(if (1073741823:Int)<a1 then 1073741823 else a1) then (if (1073741823:Int)<a1 then 1073741823 else a1) else 0)).bind fun t10_=>some t10_ else (slot_word_packed.f 0 (IntKind.wrap .i64 ((if (a0:Int)<0 then 0 else a0)+1))).bind fun t15_=>some t15_)
set_option maxRecDepth 100000 in
set_option maxHeartbeats 4000000 in
theorem slot_After_con (a0:Int) (a1:Int) (r0:Int) (h:slot_After.f a0 a1=some r0) (w0:World) (Hs:List Nat):Con Tryz.prog 80 #[.I a0,.I a1] w0 Hs [] (fun X=>X (.U r0) []):=by
 refine con_enter (c:=bodyOf Tryz.f80) Tryz.func80 rfl (m:=20) rfl rfl rfl ?_
 intro X hX _
 have H:=h
 unfold slot_After.f at H
 clear h
 refine c_seq rfl ?_
 refine r_ordb (l:=[0]) rfl (by kernel_rfl) ?_
 refine sA rfl ?_
 refine sE rfl ?_
 refine r_ordb (l:=[0,1,2,3,4,5,6]) rfl (by kernel_rfl) ?_
 refine sM rfl ?_
 refine sV rfl (v_max (x := .tmp 0) (y := .tmp 0) rfl rfl rfl) ?_
 refine sM rfl ?_
 refine sV rfl (v_min (x := .tmp 0) (y := .tmp 0) rfl rfl rfl) ?_
 refine sV rfl (v_max (x := .tmp 0) (y := .tmp 0) rfl rfl rfl) ?_
 refine sA rfl ?_
 refine sA rfl ?_
 refine sE rfl ?_
 refine c_seq rfl ?_
 refine r_ordb (l:=[0,1,2]) rfl (by kernel_rfl) ?_
 refine sM rfl ?_
 refine sM rfl ?_
 refine sR rfl ?_
 refine sQ ?_
 rcases Bool.eq_false_or_eq_true (decide (((if (a0:Int)<0 then 0 else a0):Int)≥(if (0:Int)<(if (1073741823:Int)<a1 then 1073741823 else a1) then (if (1073741823:Int)<a1 then 1073741823 else a1) else 0))) with h6_ | h6_
 replace H:=ite_y (dec_t h6_) H
 refine cT h6_ rfl ?_
 refine c_seq rfl ?_
 refine r_ordb (l:=[0,1,2,3]) rfl (by kernel_rfl) ?_
 refine sM rfl ?_
 refine sV rfl (v_build (places:=#[(0,1),(1,1)]) #[.I 2,.I (if (0:Int)<(if (1073741823:Int)<a1 then 1073741823 else a1) then (if (1073741823:Int)<a1 then 1073741823 else a1) else 0)] rfl ZR174 Tryz.underlying174 (by kernel_rfl) rfl (by kernel_rfl)) ?_
 obtain ⟨t10_,e11_,H⟩:=bind_s H
 refine s_e rfl rfl (eC [] #[.agg #[.I 2,.I (if (0:Int)<(if (1073741823:Int)<a1 then 1073741823 else a1) then (if (1073741823:Int)<a1 then 1073741823 else a1) else 0)]] Tryz.func117 (by decide) rfl (fun w ht=>slot_word_packed_con 2 (if (0:Int)<(if (1073741823:Int)<a1 then 1073741823 else a1) then (if (1073741823:Int)<a1 then 1073741823 else a1) else 0) t10_ e11_ w _)) ?_
 refine sA rfl ?_
 refine sQ ?_
 refine c_ret rfl ?_
 refine q_then_ret ?_
 have e_:=Option.some.inj H
 subst e_
 exact q_ret (vs:=[.U t10_]) rfl (.tmp rfl .nil) [] rfl (by decide) (hX)
 replace H:=ite_n (dec_f h6_) H
 refine cF h6_ rfl ?_
 refine kQ rfl ?_
 refine c_seq rfl ?_
 refine r_ordb (l:=[0,1,2,3,4]) rfl (by kernel_rfl) ?_
 refine sM rfl ?_
 refine sR rfl ?_
 refine sV rfl (v_build (places:=#[(0,1),(1,1)]) #[.I 0,.I (IntKind.wrap .i64 ((if (a0:Int)<0 then 0 else a0)+1))] rfl ZR174 Tryz.underlying174 (by kernel_rfl) rfl (by kernel_rfl)) ?_
 obtain ⟨t15_,e16_,H⟩:=bind_s H
 refine s_e rfl rfl (eC [] #[.agg #[.I 0,.I (IntKind.wrap .i64 ((if (a0:Int)<0 then 0 else a0)+1))]] Tryz.func117 (by decide) rfl (fun w ht=>slot_word_packed_con 0 (IntKind.wrap .i64 ((if (a0:Int)<0 then 0 else a0)+1)) t15_ e16_ w _)) ?_
 refine sA rfl ?_
 refine sQ ?_
 refine c_ret rfl ?_
 have e_:=Option.some.inj H
 subst e_
 exact q_ret (vs:=[.U t15_]) rfl (.tmp rfl .nil) [] rfl (by decide) (hX)
def slot_Gen.f (a0:Int):Option Int:=some (IntKind.wrap .i64 (if (1073741823:Int)<(Int.fdiv a0 (2 ^ (min (Int.toNat 2) (IntKind.bits .u64)))) then 1073741823 else Int.fdiv a0 (2 ^ (min (Int.toNat 2) (IntKind.bits .u64)))))
set_option maxRecDepth 100000 in
set_option maxHeartbeats 4000000 in
theorem slot_Gen_con (a0:Int) (r0:Int) (h:slot_Gen.f a0=some r0) (w0:World) (Hs:List Nat):Con Tryz.prog 81 #[.U a0] w0 Hs [] (fun X=>X (.I r0) []):=by
 refine con_enter (c:=bodyOf Tryz.f81) Tryz.func81 rfl (m:=7) rfl rfl rfl ?_
 intro X hX _
 have H:=h
 unfold slot_Gen.f at H
 clear h
 refine c_seq rfl ?_
 refine r_ordb (l:=[0]) rfl (by kernel_rfl) ?_
 refine sA rfl ?_
 refine sE rfl ?_
 refine r_ordb (l:=[0,1,2,3,4]) rfl (by kernel_rfl) ?_
 refine sM rfl ?_
 refine sV rfl (v_shr rfl rfl rfl (by omega)) ?_
 refine sV rfl (v_min (x := .tmp 0) (y := .tmp 0) rfl rfl rfl) ?_
 refine sV rfl (v_conv rfl Tryz.underlying41 Tryz.underlying3 rfl) ?_
 refine sA rfl ?_
 refine sQ ?_
 refine c_ret rfl ?_
 have e_:=Option.some.inj H
 subst e_
 exact q_ret (vs:=[.I (IntKind.wrap .i64 (if (1073741823:Int)<(Int.fdiv a0 (2 ^ (min (Int.toNat 2) (IntKind.bits .u64)))) then 1073741823 else Int.fdiv a0 (2 ^ (min (Int.toNat 2) (IntKind.bits .u64)))))]) rfl (.tmp rfl .nil) [] rfl (by decide) (hX)
end Go.Eng
namespace Go.Eng
open Go.RowKit Go.Proofs.YtgbcnokeaaabfaaGreatW.PrintWords
set_option linter.unusedVariables false
set_option linter.unusedSimpArgs false
structure R7 (T S C H K V L:Int):Prop where
 t:1≤T∧T≤8
 s:1≤S∧S≤8
 c:1≤C∧C≤64
 h:1≤H∧H≤6
 k:1≤K∧K≤64
 v:1≤V∧V≤64
 l:0≤L∧L≤1073741823
def r7 (T S C H K V L:Int):Bool:=decide (1≤T) && decide (T≤8) && decide (1≤S) && decide (S≤8) && decide (1≤C) && decide (C≤64) && decide (1≤H) && decide (H≤6) && decide (1≤K) && decide (K≤64) && decide (1≤V) && decide (V≤64) && decide (0≤L) && decide (L≤1073741823)
theorem r7_iff {T S C H K V L:Int}:r7 T S C H K V L=true↔R7 T S C H K V L:=by
 unfold r7
 simp only [Bool.and_eq_true,decide_eq_true_eq]
 constructor
 ·rintro ⟨⟨⟨⟨⟨⟨⟨⟨⟨⟨⟨⟨⟨h1,h2⟩,h3⟩,h4⟩,h5⟩,h6⟩,h7⟩,h8⟩,h9⟩,h10⟩,h11⟩,h12⟩,h13⟩,h14⟩
  exact ⟨⟨h1,h2⟩,⟨h3,h4⟩,⟨h5,h6⟩,⟨h7,h8⟩,⟨h9,h10⟩,⟨h11,h12⟩,⟨h13,h14⟩⟩
 ·rintro ⟨⟨h1,h2⟩,⟨h3,h4⟩,⟨h5,h6⟩,⟨h7,h8⟩,⟨h9,h10⟩,⟨h11,h12⟩,⟨h13,h14⟩⟩
  exact ⟨⟨⟨⟨⟨⟨⟨⟨⟨⟨⟨⟨⟨h1,h2⟩,h3⟩,h4⟩,h5⟩,h6⟩,h7⟩,h8⟩,h9⟩,h10⟩,h11⟩,h12⟩,h13⟩,h14⟩
theorem to_eq (x lo hi:Int) (h:lo≤hi):((x:Int) == (if lo<(if hi<x then hi else x) then (if hi<x then hi else x) else lo))=(decide (lo≤x) && decide (x≤hi)):=by
 by_cases h1:hi<x
 ·rw [if_pos h1]
  have e1:decide (x≤hi)=false:=decide_eq_false (by omega)
  rw [e1,Bool.and_false]
  by_cases h2:lo<hi
  ·rw [if_pos h2]; simp; omega
  ·rw [if_neg h2]; simp; omega
 ·rw [if_neg h1]
  have e1:decide (x≤hi)=true:=decide_eq_true (by omega)
  rw [e1,Bool.and_true]
  by_cases h2:lo<x
  ·rw [if_pos h2]; simp; omega
  ·rw [if_neg h2,Bool.eq_iff_iff]; simp; omega
theorem plan_Right_is (T S C H K V L:Int):plan_Right.f T S C H K V L=some (r7 T S C H K V L):=by
 unfold plan_Right.f plan_to.f
 simp only [Option.bind_some]
 rw [to_eq _ _ _ (by decide),to_eq _ _ _ (by decide),to_eq _ _ _ (by decide),to_eq _ _ _ (by decide),to_eq _ _ _ (by decide),to_eq _ _ _ (by decide),to_eq _ _ _ (by decide)]
 unfold r7
 simp only [Bool.and_assoc]
theorem ref04_Right_is (T S C H K V L:Int):sr04_Right.f T S C H K V L=some (r7 T S C H K V L):=by
 unfold sr04_Right.f
 have key:r7 T S C H K V L=((!(decide (T<1) || decide (T > 8) || decide (S<1) || decide (S > 8) || decide (C<1) || decide (C > 64) || decide (H<1) || decide (H > 6))) && (decide (K≥1) && decide (K≤64) && decide (V≥1) && decide (V≤64) && decide (L≥0) && decide (L≤1073741823))):=by
  rw [Bool.eq_iff_iff,r7_iff]
  simp only [Bool.and_eq_true,Bool.not_eq_true',Bool.or_eq_false_iff,decide_eq_true_eq,decide_eq_false_iff_not]
  constructor
  ·rintro ⟨⟨h1,h2⟩,⟨h3,h4⟩,⟨h5,h6⟩,⟨h7,h8⟩,⟨h9,h10⟩,⟨h11,h12⟩,⟨h13,h14⟩⟩
   omega
  ·intro h
   exact ⟨by omega,by omega,by omega,by omega,by omega,by omega,by omega⟩
 rw [key]
 by_cases h1:T<1
 ·simp [h1]
 by_cases h2:T > 8
 ·simp [h1,h2]
 by_cases h3:S<1
 ·simp [h1,h2,h3]
 by_cases h4:S > 8
 ·simp [h1,h2,h3,h4]
 by_cases h5:C<1
 ·simp [h1,h2,h3,h4,h5]
 by_cases h6:C > 64
 ·simp [h1,h2,h3,h4,h5,h6]
 by_cases h7:H<1
 ·simp [h1,h2,h3,h4,h5,h6,h7]
 by_cases h8:H > 6
 ·simp [h1,h2,h3,h4,h5,h6,h7,h8]
 by_cases h9:K≥1
 ·by_cases h10:K≤64
  ·by_cases h11:V≥1
   ·by_cases h12:V≤64
    ·by_cases h13:L≥0
     ·simp [h1,h2,h3,h4,h5,h6,h7,h8,h9,h10,h11,h12,h13]
     ·simp [h1,h2,h3,h4,h5,h6,h7,h8,h9,h10,h11,h12,h13]
    ·simp [h1,h2,h3,h4,h5,h6,h7,h8,h9,h10,h11,h12]
   ·simp [h1,h2,h3,h4,h5,h6,h7,h8,h9,h10,h11]
  ·simp [h1,h2,h3,h4,h5,h6,h7,h8,h9,h10]
 ·simp [h1,h2,h3,h4,h5,h6,h7,h8,h9]
def lenI (T S C H:Int):Int:=1+T * S+(C+1) * (6+H)
def cellI (T S H i f:Int):Int:=1+T * S+i * (6+H)+f
theorem mul_range {a b:Int} {p q:Int} (h0:0≤a) (h1:a≤p) (h2:0≤b) (h3:b≤q):0≤a * b∧a * b≤p * q :=
 ⟨Int.mul_nonneg h0 h2,Int.mul_le_mul h1 h3 h2 (Int.le_trans h0 h1)⟩
theorem lens {T S C H K V L:Int} (h:R7 T S C H K V L):0≤T * S∧T * S≤64∧0≤(C+1) * (6+H)∧(C+1) * (6+H)≤780:=by
 have h1:=mul_range (a:=T) (b:=S) (p:=8) (q:=8) (by have:=h.t; omega) (by have:=h.t; omega) (by have:=h.s; omega) (by have:=h.s; omega)
 have h2:=mul_range (a:=C+1) (b:=6+H) (p:=65) (q:=12) (by have:=h.c; omega) (by have:=h.c; omega) (by have:=h.h; omega) (by have:=h.h; omega)
 omega
theorem cells {T S C H K V L i f:Int} (h:R7 T S C H K V L) (h0:0≤i) (h1:i≤C) (h2:0≤f) (h3:f<6+H):0≤cellI T S H i f∧cellI T S H i f<lenI T S C H∧0≤i * (6+H)∧i * (6+H)≤768:=by
 have hl:=lens h
 have e1:(C+1) * (6+H)=C * (6+H)+(6+H):=by rw [Int.add_mul,Int.one_mul]
 have h4:=mul_range (a:=i) (b:=6+H) (p:=C) (q:=6+H) h0 h1 (by have:=h.h; omega) (Int.le_refl _)
 have h5:=mul_range (a:=i) (b:=6+H) (p:=64) (q:=12) h0 (by have:=h.c; omega) (by have:=h.h; omega) (by have:=h.h; omega)
 unfold cellI lenI
 have:=h.h
 omega
theorem plan_Len_is (T S C H K V L:Int):plan_Len.f T S C H K V L=some (if r7 T S C H K V L=true then lenI T S C H else 0):=by
 unfold plan_Len.f plan_first.f plan_fields.f
 rw [plan_Right_is]
 simp only [Option.bind_some]
 by_cases h:r7 T S C H K V L=true
 ·rw [if_pos h,if_pos h]
  have hl:=lens (r7_iff.1 h)
  have hc:=(r7_iff.1 h).c
  have hh:=(r7_iff.1 h).h
  rw [wi64 (n:=T * S) (by omega) (by omega),wi64 (n:=1+T * S) (by omega) (by omega),wi64 (n:=6+H) (by omega) (by omega),wi64 (n:=C+1) (by omega) (by omega),wi64 (n:=(C+1) * (6+H)) (by omega) (by omega),wi64 (by omega) (by omega)]
  rfl
 ·rw [if_neg h,if_neg h]
theorem ref04_Len_is (T S C H K V L:Int):sr04_Len.f T S C H K V L=some (if r7 T S C H K V L=true then lenI T S C H else 0):=by
 unfold sr04_Len.f
 rw [ref04_Right_is]
 simp only [Option.bind_some]
 by_cases h:r7 T S C H K V L=true
 ·rw [if_pos h,if_pos h]
  have hl:=lens (r7_iff.1 h)
  have hc:=(r7_iff.1 h).c
  have hh:=(r7_iff.1 h).h
  rw [wi64 (n:=T * S) (by omega) (by omega),wi64 (n:=1+T * S) (by omega) (by omega),wi64 (n:=6+H) (by omega) (by omega),wi64 (n:=C+1) (by omega) (by omega),wi64 (n:=(C+1) * (6+H)) (by omega) (by omega),wi64 (by omega) (by omega)]
  rfl
 ·rw [if_neg h,if_neg h]
def isF (C H i f:Int):Bool:=decide (0≤i) && decide (i≤C) && decide (0≤f) && decide (f<6+H)
theorem isF_iff {C H i f:Int}:isF C H i f=true↔0≤i∧i≤C∧0≤f∧f<6+H:=by
 unfold isF
 simp only [Bool.and_eq_true,decide_eq_true_eq]
 constructor
 ·rintro ⟨⟨⟨a,b⟩,c⟩,d⟩; exact ⟨a,b,c,d⟩
 ·rintro ⟨a,b,c,d⟩; exact ⟨⟨⟨a,b⟩,c⟩,d⟩
theorem cell_wrap {T S C H K V L i f:Int} (h:R7 T S C H K V L) (hf:isF C H i f=true):IntKind.wrap .i64 (IntKind.wrap .i64 (IntKind.wrap .i64 (1+IntKind.wrap .i64 (T * S))+IntKind.wrap .i64 (i * IntKind.wrap .i64 (6+H)))+f)=cellI T S H i f:=by
 obtain ⟨h0,h1,h2,h3⟩:=isF_iff.1 hf
 have hl:=lens h
 have hc:=cells h h0 h1 h2 h3
 have hh:=h.h
 unfold cellI at *
 rw [wi64 (n:=T * S) (by omega) (by omega),wi64 (n:=1+T * S) (by omega) (by omega),wi64 (n:=6+H) (by omega) (by omega),wi64 (n:=i * (6+H)) (by omega) (by omega),wi64 (n:=1+T * S+i * (6+H)) (by omega) (by omega),wi64 (by omega) (by omega)]
theorem within_is (a b c:Int):plan_within.f a b c=some (decide (b≤a) && decide (a≤c)):=by
 unfold plan_within.f
 by_cases h:a≥b
 ·rw [if_pos h,show decide (b≤a)=true from decide_eq_true h]; simp
 ·rw [if_neg h,show decide (b≤a)=false from decide_eq_false h]; simp
theorem plan_Cell_is (T S C H K V L i f:Int):plan_Cell.f T S C H K V L i f=some (if (r7 T S C H K V L && isF C H i f)=true then cellI T S H i f else -1):=by
 unfold plan_Cell.f plan_first.f plan_fields.f
 rw [plan_Right_is]
 simp only [Option.bind_some,within_is]
 by_cases h:r7 T S C H K V L=true
 ·have hh:=(r7_iff.1 h).h
  have e6:IntKind.wrap .i64 (IntKind.wrap .i64 (6+H) - 1)=6+H - 1:=by rw [wi64 (n:=6+H) (by omega) (by omega),wi64 (by omega) (by omega)]
  rw [if_pos h,h,Bool.true_and,e6]
  by_cases h1:(decide (0≤i) && decide (i≤C))=true
  ·rw [if_pos h1]
   simp only [Option.bind_some]
   have e7:(decide (0≤f) && decide (f≤6+H - 1))=isF C H i f:=by
    rw [Bool.eq_iff_iff,isF_iff]
    simp only [Bool.and_eq_true,decide_eq_true_eq] at h1 ⊢
    omega
   rw [e7]
   by_cases h2:isF C H i f=true
   ·rw [h2]
    simp only [Bool.not_true,Bool.false_eq_true,if_false,if_true]
    rw [cell_wrap (r7_iff.1 h) h2]
   ·rw [Bool.not_eq_true] at h2
    rw [h2]
    simp
  ·have h2:isF C H i f=false:=by
    rw [← Bool.not_eq_true,isF_iff]
    simp only [Bool.and_eq_true,decide_eq_true_eq] at h1
    omega
   rw [if_neg h1,h2]
   simp
 ·rw [Bool.not_eq_true] at h
  rw [h]
  simp
theorem ref04_Cell_is (T S C H K V L i f:Int):sr04_Cell.f T S C H K V L i f=some (if (r7 T S C H K V L && isF C H i f)=true then cellI T S H i f else -1):=by
 unfold sr04_Cell.f
 rw [ref04_Right_is]
 simp only [Option.bind_some]
 by_cases h:r7 T S C H K V L=true
 ·have hh:=(r7_iff.1 h).h
  have e6:IntKind.wrap .i64 (6+H)=6+H:=wi64 (by omega) (by omega)
  rw [if_pos h,h,Bool.true_and]
  by_cases h0:i<0
  ·have h2:isF C H i f=false:=by rw [← Bool.not_eq_true,isF_iff]; omega
   rw [if_pos h0,h2]; simp
  ·by_cases h1:i > C
   ·have h2:isF C H i f=false:=by rw [← Bool.not_eq_true,isF_iff]; omega
    rw [if_neg h0,if_pos h1,h2]; simp
   ·by_cases h3:f<0
    ·have h2:isF C H i f=false:=by rw [← Bool.not_eq_true,isF_iff]; omega
     rw [if_neg h0,if_neg h1,if_pos h3,h2]; simp
    ·rw [if_neg h0,if_neg h1,if_neg h3]
     by_cases h2:isF C H i f=true
     ·have h4:decide (f≥IntKind.wrap .i64 (6+H))=false:=by rw [e6]; have:=isF_iff.1 h2; exact decide_eq_false (by omega)
      rw [h4,h2]
      simp only [Option.bind_some,Bool.false_eq_true,if_false,if_true]
      rw [cell_wrap (r7_iff.1 h) h2]
     ·have h4:decide (f≥IntKind.wrap .i64 (6+H))=true:=by rw [e6]; rw [isF_iff] at h2; exact decide_eq_true (by omega)
      rw [Bool.not_eq_true] at h2
      rw [h4,h2]; simp
 ·rw [Bool.not_eq_true] at h
  rw [h]
  simp
end Go.Eng
namespace Go.Eng
open Go.Proofs Go.RowKit Go.Proofs.YtgbcnokeaaabfaaGreatW.PrintWords
set_option linter.unusedVariables false
set_option linter.unusedSimpArgs false
def ylF (C:Int) (nm:Int→Bool) (pl nx:Int→Int):Nat→Int→Int→List (Int × Int)
 | 0,_,_=>[]
 | m+1,j,x=>if j≤C then (if nm x=true then (j,pl x) :: ylF C nm pl nx m (j+1) (nx x) else []) else []
theorem attach_step {α:Type} {l:List α} {j:Nat} {x:α} (h:l[j]?=some x):∃ a:{p:α // p∈l},a.1=x∧l.attach.take (j+1)=l.attach.take j ++ [a]:=by
 have hj:j<l.length:=(List.getElem?_eq_some_iff.1 h).1
 have hj2:j<l.attach.length:=by rw [List.length_attach]; exact hj
 refine ⟨l.attach[j],?_,?_⟩
 ·rw [List.getElem_attach]
  exact (List.getElem?_eq_some_iff.1 h).2
 ·rw [List.take_add_one,List.getElem?_eq_getElem hj2]
  rfl
set_option maxRecDepth 100000 in
set_option maxHeartbeats 4000000 in
theorem level1_stops (n:Nat) (hn:1≤n) (bw bk:Nat) (G:List Nat) (T S C H K V L:Int) (A:Option Addr) (c:Nat) (l:List Int) (lev x0:Int) (nm:Int→Bool) (pl nx:Int→Int) (N:Nat) (hN:(N:Int)≤1000000) (hCN:C<N)
  (hx0:sw_at.f T S C H K V L l 0 (IntKind.wrap .i64 (6+lev))=some x0) (hnm:∀ x,sw_names.f T S C H K V L l x=some (nm x)) (hpl:∀ x,handle_Plain.f x=some (pl x)) (hnx:∀ x,nm x=true→sw_at.f T S C H K V L l (x % 4294967296) (IntKind.wrap .i64 (6+lev))=some (nx x))
  (w:World) (hBw:w.heap[bw]?=some (.cells (cfB T S C H K V L A l.length c) 104 (0,0))) (hBk:w.heap[bk]?=some (.cells #[.I lev] 3 (0,0))) (hwg:bw ∉ G) (hkg:bk ∉ G) (hC:Stab G w (KU A c l)) :
  SeqStopsK Fence.wide n Tryz.prog 98 #[.P bw,.P bk] (fun x:{p:Int × Int // p∈(ylF C nm pl nx N 0 x0)}=>#[Value.I x.1.1,Value.U x.1.2]) (KG w.heap.size G) (fun ys=>ys=(ylF C nm pl nx N 0 x0).attach) (fun pre=>pre <+: (ylF C nm pl nx N 0 x0).attach) ((ylF C nm pl nx N 0 x0)).length w:=fun ly J Jx W hW hJ hJx hY h0=>by
 have agree_of:∀ W1,KG w.heap.size G w W1→Agree G w W1:=fun W1 h=>⟨h.os,h.tape,h.output,h.size,fun b hb hn=>h.block b hb hn⟩
 have stabPsi:∀ pre W1,(J pre W1∧KG w.heap.size G w W1∧W.heap.size≤W1.heap.size)→Stab [] W1 (fun W_=>J pre W_∧KG w.heap.size G w W_∧W.heap.size≤W_.heap.size):=fun pre W1 h W2 ha =>
  ⟨hJ pre W1 W2 none h.1 ⟨ha.os,ha.tape,ha.output,ha.size,fun k hk _=>ha.frame k hk (by simp)⟩ (fun r e=>by cases e),h.2.1.trans ⟨ha.os,ha.tape,ha.output,ha.size,fun k hk _=>ha.frame k (Nat.lt_of_lt_of_le hk h.2.1.size) (by simp)⟩,Nat.le_trans h.2.2 ha.size⟩
 have stabJx:∀ pre W1,Jx pre W1→Stab [] W1 (Jx pre):=fun pre W1 h W2 ha=>hJx pre W1 W2 none h ⟨ha.os,ha.tape,ha.output,ha.size,fun k hk _=>ha.frame k hk (by simp)⟩ (fun r e=>by cases e)
 have stab1:∀ φ:World→Prop,Stab G w φ→∀ W1,KG w.heap.size G w W1→Stab [] W1 φ:=fun φ hφ W1 h=>hφ.on (agree_of W1 h) (fun x hx _=>by cases hx)
 have sBw:Stab G w (fun w=>w.heap[bw]?=some (.cells (cfB T S C H K V L A l.length c) 104 (0,0))):=fun W1 ha=>(ha.frame bw (Array.getElem?_eq_some_iff.1 hBw).1 hwg).trans hBw
 have sBk:Stab G w (fun w=>w.heap[bk]?=some (.cells #[.I lev] 3 (0,0))):=fun W1 ha=>(ha.frame bk (Array.getElem?_eq_some_iff.1 hBk).1 hkg).trans hBk
 have tri_of:∀ (φs:List (World→Prop)) (W1:World),Agree G w W1→(∀ φ∈φs,Stab [] W1 φ)→Tri w ⟨G,[]⟩ W1 (φs.map Ent.f):=fun φs W1 ha h=>{ toAgree:=ha,at_:=fun k o hk=>(by obtain ⟨φ,_,e⟩:=List.mem_map.1 hk; cases e),own:=fun k hk=>(by rw [ids_facts] at hk; cases hk),nodup:=(by rw [ids_facts]; exact List.nodup_nil),hol:=fun k hk=>(by cases hk),facts:=fun φ hφ=>(by obtain ⟨ψ,hψ,e⟩:=List.mem_map.1 hφ; injection e with e; subst e; rw [ids_facts]; exact h ψ hψ) }
 have hyield:∀ (j:Nat) (x:Int) (a_:{p:Int × Int // p∈(ylF C nm pl nx N 0 x0)}) (ha_:a_.1=((j:Int),pl x)) (w1:World),Tri w ⟨G,[]⟩ w1 [.f (fun W_=>J ((ylF C nm pl nx N 0 x0).attach.take j) W_∧KG w.heap.size G w W_∧W.heap.size≤W_.heap.size),.f (fun w=>w.heap[bw]?=some (.cells (cfB T S C H K V L A l.length c) 104 (0,0))),.f (fun w=>w.heap[bk]?=some (.cells #[.I lev] 3 (0,0))),.f (KU A c l)]→j<(ylF C nm pl nx N 0 x0).length→(ylF C nm pl nx N 0 x0).attach.take (j+1)=(ylF C nm pl nx N 0 x0).attach.take j ++ [a_]→YieldAt Fence.wide (n - 1) Tryz.prog ly #[.I (j:Int),.U (pl x)] w1 (fun e w'=>(e = .returned (.bool true)∧Tri w ⟨G,[]⟩ w' [.f (fun W_=>J ((ylF C nm pl nx N 0 x0).attach.take (j+1)) W_∧KG w.heap.size G w W_∧W.heap.size≤W_.heap.size),.f (fun w=>w.heap[bw]?=some (.cells (cfB T S C H K V L A l.length c) 104 (0,0))),.f (fun w=>w.heap[bk]?=some (.cells #[.I lev] 3 (0,0))),.f (KU A c l)])∨(e = .returned (.bool false)∧Tri w' ⟨[],[]⟩ w' [.f (Jx ((ylF C nm pl nx N 0 x0).attach.take (j+1)))])):=by
  intro j x a_ ha_ w1 ht1 hlt htk
  have h1:=(ht1.fact 0 rfl:J ((ylF C nm pl nx N 0 x0).attach.take j) w1∧KG w.heap.size G w w1∧W.heap.size≤w1.heap.size)
  obtain ⟨fn,tmps,assign,body,hy,hR⟩:=hY ((ylF C nm pl nx N 0 x0).attach.take j) a_ w1 h1.1 (by rw [List.length_take,List.length_attach]; omega)
  simp only [ha_] at hy
  refine ⟨fn,tmps,assign,body,hy,hR.mono ?_⟩
  rintro e W3 (⟨rfl,hJ3,hk3⟩ | ⟨rfl,hJx3⟩)
  ·refine .inl ⟨rfl,?_⟩
   rw [htk]
   have hk4:KG w.heap.size G w W3:=h1.2.1.trans hk3
   have hps:=stabPsi _ W3 ⟨hJ3,hk4,Nat.le_trans h1.2.2 hk3.size⟩
   refine tri_of [_,_,_,_] W3 ?_ ?_
   ·exact agree_of W3 hk4
   ·intro φ hφ
    simp only [List.mem_cons,List.not_mem_nil,or_false] at hφ
    rcases hφ with rfl | rfl | rfl | rfl
    ·exact hps
    ·exact stab1 _ sBw W3 hk4
    ·exact stab1 _ sBk W3 hk4
    ·exact stab1 _ hC W3 hk4
  ·refine .inr ⟨rfl,?_⟩
   rw [htk]
   refine { toAgree:=Agree.refl _ _,at_:=fun k o hk=>(by simp at hk),own:=fun k hk=>(by cases hk),nodup:=List.nodup_nil,facts:=fun φ hφ=>?_,hol:=fun k hk=>(by cases hk) }
   rw [List.mem_singleton] at hφ
   injection hφ with e
   subst e
   exact stabJx _ W3 hJx3
 have ht0:Tri w ⟨G,[]⟩ W [.f (fun W_=>J ([]) W_∧KG w.heap.size G w W_∧W.heap.size≤W_.heap.size),.f (fun w=>w.heap[bw]?=some (.cells (cfB T S C H K V L A l.length c) 104 (0,0))),.f (fun w=>w.heap[bk]?=some (.cells #[.I lev] 3 (0,0))),.f (KU A c l)]:=by
  have hk0:KG w.heap.size G w W:=⟨hW.os,hW.tape,hW.output,hW.size,fun k hk _=>hW.block k hk⟩
  refine tri_of [_,_,_,_] W (agree_of W hk0) ?_
  intro φ hφ
  simp only [List.mem_cons,List.not_mem_nil,or_false] at hφ
  rcases hφ with rfl | rfl | rfl | rfl
  ·exact stabPsi _ W ⟨h0,hk0,Nat.le_refl _⟩
  ·exact stab1 _ sBw W hk0
  ·exact stab1 _ sBk W hk0
  ·exact stab1 _ hC W hk0
 refine ins_enter (c:=bodyOf Tryz.f98) Tryz.func98 rfl (m:=34) rfl rfl rfl ht0 (fun _ _ h=>(by obtain ⟨⟨v,h⟩,_⟩:=h; cases h)) (fun _ h=>(by obtain ⟨⟨v,h⟩,_⟩:=h; cases h)) ?_
 refine c_seq rfl ?_
 refine r_ordb (l:=[0,1,2,3,4]) rfl (by kernel_rfl) ?_
 refine sV rfl (v_ldAr [.I T,.I S,.I C,.I H,.I K,.I V,.I L,.slice A l.length c] 1 rfl Tryz.underlying104 rfl SZ104 rfl rfl rfl rfl) ?_
 refine sV rfl (v_ldr 2 rfl Tryz.underlying3 rfl rfl rfl rfl) ?_
 refine sR rfl ?_
 refine s_e rfl rfl (eC [3] #[.agg (cfB T S C H K V L A l.length c),.I 0,.I (IntKind.wrap .i64 (6+lev))] Tryz.func78 (by decide) rfl (fun w ht=>sw_at_con T S C H K V L A c l 0 (IntKind.wrap .i64 (6+lev)) x0 hx0 w _)) ?_
 refine sA rfl ?_
 refine sE rfl ?_
 refine r_ordb (l:=[0]) rfl (by kernel_rfl) ?_
 refine sA rfl ?_
 refine sQ ?_
 refine c_block rfl ?_
 refine c_loop (σ:=Nat × Int) (fun (j,x)=>j≤(ylF C nm pl nx N 0 x0).length∧(ylF C nm pl nx N 0 x0).drop j=ylF C nm pl nx (N - j) j x∧j≤N) (fun (j,x)=>(ylF C nm pl nx N 0 x0).length - j) (fun (j,x)=>[(0,.func (.yield ly) #[] #[]),(1,.P bw),(2,.P bk),(4,.U x),(5,.I (j:Int))]) (fun (j,x)=>[.f (fun W_=>J ((ylF C nm pl nx N 0 x0).attach.take j) W_∧KG w.heap.size G w W_∧W.heap.size≤W_.heap.size),.f (fun w=>w.heap[bw]?=some (.cells (cfB T S C H K V L A l.length c) 104 (0,0))),.f (fun w=>w.heap[bk]?=some (.cells #[.I lev] 3 (0,0))),.f (KU A c l)]) (0,x0) [0,1,2,3] rfl ⟨Nat.zero_le _,rfl,Nat.zero_le _⟩ (subF_spec ⟨rfl,rfl,rfl,rfl,rfl,trivial⟩) rfl (by decide) ?_
 rintro ⟨j,x⟩ ⟨hj,hd,hjN⟩
 refine c_seq rfl ?_
 refine c_seq rfl ?_
 refine r_ordb (l:=[0,1,2,3,4,5,6,7,8,9]) rfl (by kernel_rfl) ?_
 refine sM rfl ?_
 refine sV rfl (vF Tryz.underlying104 SZ23 rfl) ?_
 refine sV rfl (vF Tryz.underlying23 SZ3 rfl) ?_
 refine sV rfl (v_ldr 1 rfl Tryz.underlying3 rfl rfl rfl rfl) ?_
 refine sR rfl ?_
 refine sM rfl ?_
 rcases Bool.eq_false_or_eq_true (decide (((j:Int):Int)≤C)) with h1_ | h1_
 ·
  refine s_splitv (d:=15) (t:=decide (((j:Int):Int)≤C)) rfl (fun _=>?_) (fun h2_=>absurd (h2_.symm.trans h1_) (by decide))
  refine sG rfl (v_ldAr [.I T,.I S,.I C,.I H,.I K,.I V,.I L,.slice A l.length c] 1 rfl Tryz.underlying104 rfl SZ104 rfl rfl rfl rfl) ?_
  refine sG rfl (vM rfl) ?_
  refine s_eg rfl rfl (eC [3] #[.agg (cfB T S C H K V L A l.length c),.U x] Tryz.func75 (by decide) rfl (fun w ht=>sw_names_con T S C H K V L A c l x (nm x) (hnm x) w _)) ?_
  refine sP rfl ?_
  refine sQ ?_
  rcases Bool.eq_false_or_eq_true (nm x) with h3_ | h3_
  ·
   refine cT h3_ rfl ?_
   refine kQ rfl ?_
   refine c_seq rfl ?_
   refine c_block rfl ?_
   refine c_seq rfl ?_
   refine c_seq rfl ?_
   refine r_ordI (l:=[0,1,2,3,4,5]) rfl (by kernel_rfl) ?_
   refine si_v rfl rfl (by kernel_rfl) rfl rfl (vM rfl) ?_
   refine si_v rfl rfl (by kernel_rfl) rfl rfl (vM rfl) ?_
   refine si_v rfl rfl (by kernel_rfl) rfl rfl (vM rfl) ?_
   refine si_e rfl rfl (by kernel_rfl) (eC [] #[.U x] Tryz.func99 (by decide) rfl (fun w ht=>handle_Plain_con x (pl x) (hpl x) w _)) ?_
   have hjC:(j:Int)≤C:=of_decide_eq_true h1_
   obtain ⟨m_,hm_⟩:∃ m_,N - j=m_+1:=⟨N - j - 1,by omega⟩
   have hcons:(ylF C nm pl nx N 0 x0).drop j=((j:Int),pl x) :: ylF C nm pl nx m_ ((j:Int)+1) (nx x):=by rw [hd,hm_,ylF,if_pos hjC,if_pos h3_]
   have hlt:j<(ylF C nm pl nx N 0 x0).length:=by
    have:=congrArg List.length hcons
    simp only [List.length_drop,List.length_cons] at this
    omega
   have hget:(ylF C nm pl nx N 0 x0)[j]?=some ((j:Int),pl x):=by have:=congrArg List.head? hcons; simpa using this
   obtain ⟨a_,ha_,htk⟩:=attach_step hget
   have hd2:(ylF C nm pl nx N 0 x0).drop (j+1)=ylF C nm pl nx (N - (j+1)) ((j+1:Nat):Int) (nx x):=by
    have:=congrArg List.tail hcons
    simp only [List.tail_drop,List.tail_cons] at this
    rw [this,show N - (j+1)=m_ by omega]
    rfl
   have hjN2:j+1≤N:=by omega
   have hjw:IntKind.wrap .i64 ((j:Int)+1)=((j+1:Nat):Int):=by rw [wi64 (by omega) (by omega)]; rfl
   refine si_yield (ly:=ly) (L1:=[.f (fun W_=>J ((ylF C nm pl nx N 0 x0).attach.take (j+1)) W_∧KG w.heap.size G w W_∧W.heap.size≤W_.heap.size),.f (fun w=>w.heap[bw]?=some (.cells (cfB T S C H K V L A l.length c) 104 (0,0))),.f (fun w=>w.heap[bk]?=some (.cells #[.I lev] 3 (0,0))),.f (KU A c l)]) (L0:=[.f (Jx ((ylF C nm pl nx N 0 x0).attach.take (j+1)))]) rfl rfl rfl rfl rfl rfl rfl rfl ?_ ?_ ?_
   ·intro w1 ht1
    exact hyield j x a_ ha_ w1 ht1 hlt htk
   ·
    refine si_v rfl rfl (by kernel_rfl) rfl rfl (v_not rfl rfl) ?_
    refine si_end ?_
    refine q_seq ?_
    refine c_cond0 rfl rfl ?_
    refine kQ rfl ?_
    refine r_any [.f (fun W_=>J ((ylF C nm pl nx N 0 x0).attach.take (j+1)) W_∧KG w.heap.size G w W_∧W.heap.size≤W_.heap.size),.f (fun w=>w.heap[bw]?=some (.cells (cfB T S C H K V L A l.length c) 104 (0,0))),.f (fun w=>w.heap[bk]?=some (.cells #[.I lev] 3 (0,0))),.f (KU A c l)] (by kernel_rfl) rfl (by kernel_rfl) (mem_pick (idx:=[0,1,2,3]) rfl) ?_
    refine aV 0 rfl (by kernel_rfl) (v_ldAr [.I T,.I S,.I C,.I H,.I K,.I V,.I L,.slice A l.length c] 1 rfl Tryz.underlying104 rfl SZ104 rfl rfl rfl rfl) ?_
    refine aV 1 rfl (by kernel_rfl) (vM rfl) ?_
    refine aV 3 rfl (by kernel_rfl) (v_ldr 2 rfl Tryz.underlying3 rfl rfl rfl rfl) ?_
    refine aV 4 rfl (by kernel_rfl) (vR rfl) ?_
    refine a_1 (i:=2) (by kernel_rfl) ?_
    refine i_e rfl rfl (eC [] #[.U x] Tryz.func30 (by decide) rfl (fun w ht=>handle_Index_con x w _)) ?_
    refine ⟨(mem_pick (idx:=[0,1,2,3]) rfl),?_⟩
    refine a_1 (i:=5) (by kernel_rfl) ?_
    refine i_e rfl rfl (eC [3] #[.agg (cfB T S C H K V L A l.length c),.I (x % 4294967296),.I (IntKind.wrap .i64 (6+lev))] Tryz.func78 (by decide) rfl (fun w ht=>sw_at_con T S C H K V L A c l (x % 4294967296) (IntKind.wrap .i64 (6+lev)) (nx x) (hnx x h3_) w _)) ?_
    refine ⟨(mem_pick (idx:=[0,1,2,3]) rfl),?_⟩
    refine aV 6 rfl (by kernel_rfl) (vA rfl) ?_
    refine a_end (by kernel_rfl) ?_
    refine q_block ?_
    refine q_seq ?_
    refine r_ordb (l:=[0,1,2]) rfl (by kernel_rfl) ?_
    refine sM rfl ?_
    refine sR rfl ?_
    refine sA rfl ?_
    refine s_end ?_
    exact q_again (j+1,nx x) [0,1,2,3] ⟨hlt,hd2,hjN2⟩ (show (ylF C nm pl nx N 0 x0).length - (j+1)<(ylF C nm pl nx N 0 x0).length - j by omega) (subF_spec ⟨rfl,rfl,rfl,rfl,congrArg some (congrArg (Value.int .i64) hjw),trivial⟩) rfl (by decide)
   ·
    intro w_
    refine si_v rfl rfl (by kernel_rfl) rfl rfl (v_not rfl rfl) ?_
    refine si_end ?_
    refine q_seq ?_
    refine c_cond1 rfl rfl ?_
    refine c_ret rfl ?_
    refine q_then_ret ?_
    refine q_block_ret ?_
    refine q_then_ret ?_
    refine q_then_ret ?_
    refine q_block_ret ?_
    refine q_all (fun a_ w_ hf_ ht_=>?_)
    refine bodyPost_ret (results_none rfl _ _ _) hf_.defers ?_
    exact ⟨⟨_,rfl⟩,.inr ⟨_,List.take_prefix _ _,ht_.fact 0 rfl⟩⟩
  ·
   refine cF h3_ rfl ?_
   refine c_exit (i:=0) rfl rfl ?_
   refine q_then_exit ?_
   refine q_then_exit ?_
   refine q_block_here rfl ?_
   have hend:(ylF C nm pl nx N 0 x0).drop j=[]:=by
    rw [hd]
    cases N - j with
    | zero=>rfl
    | succ m_=>rw [ylF,if_pos (of_decide_eq_true h1_),if_neg (by rw [h3_]; decide)]
   have hjl:(ylF C nm pl nx N 0 x0).length≤j:=List.drop_eq_nil_iff.1 hend
   refine q_all (fun a_ w_ hf_ ht_=>?_)
   have h1:=(ht_.fact 0 rfl:J ((ylF C nm pl nx N 0 x0).attach.take j) w_∧_).1
   rw [List.take_of_length_le (by rw [List.length_attach]; exact hjl)] at h1
   refine ⟨hf_.defers,_,results_none rfl _ _ _,?_⟩
   exact ⟨⟨_,rfl⟩,.inl ⟨_,rfl,h1⟩⟩
 ·
  refine s_splitv (d:=15) (t:=decide (((j:Int):Int)≤C)) rfl (fun h6_=>absurd (h6_.symm.trans h1_) (by decide)) (fun _=>?_)
  refine sN rfl ?_
  refine sN rfl ?_
  refine sN rfl ?_
  refine sP rfl ?_
  refine sQ ?_
  refine c_cond0 rfl rfl ?_
  refine c_exit (i:=0) rfl rfl ?_
  refine q_then_exit ?_
  refine q_then_exit ?_
  refine q_block_here rfl ?_
  have hend:(ylF C nm pl nx N 0 x0).drop j=[]:=by
   rw [hd]
   cases N - j with
   | zero=>rfl
   | succ m_=>rw [ylF,if_neg (of_decide_eq_false h1_)]
  have hjl:(ylF C nm pl nx N 0 x0).length≤j:=List.drop_eq_nil_iff.1 hend
  refine q_all (fun a_ w_ hf_ ht_=>?_)
  have h1:=(ht_.fact 0 rfl:J ((ylF C nm pl nx N 0 x0).attach.take j) w_∧_).1
  rw [List.take_of_length_le (by rw [List.length_attach]; exact hjl)] at h1
  refine ⟨hf_.defers,_,results_none rfl _ _ _,?_⟩
  exact ⟨⟨_,rfl⟩,.inl ⟨_,rfl,h1⟩⟩
end Go.Eng
namespace Go.Eng
open Go.Proofs Go.RowKit Go.Proofs.YtgbcnokeaaabfaaGreatW.PrintWords
set_option linter.unusedVariables false
set_option linter.unusedSimpArgs false
def okB (T S C H K V L:Int) (l:List Int) (lev:Int):Bool:=r7 T S C H K V L && decide ((l.length:Int)=lenI T S C H) && decide (0≤lev) && decide (lev<H) && l.all fun x=>decide (0≤x)
theorem okB_iff {T S C H K V L:Int} {l:List Int} {lev:Int}:okB T S C H K V L l lev=true↔R7 T S C H K V L∧(l.length:Int)=lenI T S C H∧0≤lev∧lev<H∧∀ x∈l,0≤x:=by
 unfold okB
 simp only [Bool.and_eq_true,decide_eq_true_eq,r7_iff,List.all_eq_true]
 exact ⟨fun ⟨⟨⟨⟨a,b⟩,c⟩,d⟩,e⟩=>⟨a,b,c,d,e⟩,fun ⟨a,b,c,d,e⟩=>⟨⟨⟨⟨a,b⟩,c⟩,d⟩,e⟩⟩
def nmF (T S C H K V L:Int) (l:List Int) (x:Int):Bool:=(sw_names.f T S C H K V L l x).getD false
def plF (x:Int):Int:=(handle_Plain.f x).getD 0
def atF (T S C H K V L:Int) (l:List Int) (i f:Int):Int:=(sw_at.f T S C H K V L l i f).getD 0
def lvlF (T S C H K V L:Int) (l:List Int) (lev:Int):List (Int × Int):=ylF C (nmF T S C H K V L l) plF (fun x=>atF T S C H K V L l (x % 4294967296) (IntKind.wrap .i64 (6+lev))) (C.toNat+1) 0 (atF T S C H K V L l 0 (IntKind.wrap .i64 (6+lev)))
section
variable {T S C H K V L:Int} {l:List Int}
theorem at_some (hr:R7 T S C H K V L) (hl:(l.length:Int)=lenI T S C H) {i f:Int} (hf:isF C H i f=true):sw_at.f T S C H K V L l i f=some (rd l (cellI T S H i f)):=by
 obtain ⟨h1,h2,h3,h4⟩:=isF_iff.1 hf
 have hc:=cells hr h1 h2 h3 h4
 unfold sw_at.f
 rw [plan_Cell_is,r7_iff.2 hr,hf]
 simp only [Bool.and_self,if_true,Option.bind_some]
 rw [if_pos hc.1,if_pos (by rw [hl]; exact hc.2.1)]
theorem at_eq (hr:R7 T S C H K V L) (hl:(l.length:Int)=lenI T S C H) {i f:Int} (hf:isF C H i f=true):sw_at.f T S C H K V L l i f=some (atF T S C H K V L l i f):=by
 unfold atF
 rw [at_some hr hl hf]
 rfl
theorem plain_eq (x:Int):handle_Plain.f x=some (plF x):=rfl
theorem names_eq (x:Int):sw_names.f T S C H K V L l x=some (nmF T S C H K V L l x):=by
 unfold nmF sw_names.f handle_Valid.f
 simp only [Option.bind_some]
 split
 ·split <;> rfl
 ·rfl
theorem names_ix {x:Int} (h:nmF T S C H K V L l x=true):1≤x % 4294967296∧x % 4294967296≤C:=by
 unfold nmF sw_names.f handle_Valid.f at h
 simp only [Option.bind_some] at h
 split at h
 ·split at h
  ·rename_i h1
   simp only [Option.bind_some,Option.getD_some,decide_eq_true_eq] at h
   exact ⟨h1,h⟩
  ·simp at h
 ·simp at h
theorem isF_lev {i lev:Int} (hr:R7 T S C H K V L) (h0:0≤i) (h1:i≤C) (h2:0≤lev) (h3:lev<H):isF C H i (IntKind.wrap .i64 (6+lev))=true:=by
 have:=hr.h
 rw [wi64 (by omega) (by omega)]
 exact isF_iff.2 ⟨h0,h1,by omega,by omega⟩
theorem ylF_len (nm:Int→Bool) (pl nx:Int→Int):∀ (m:Nat) (j x:Int),(ylF C nm pl nx m j x).length≤m
 | 0,_,_=>Nat.le_refl _
 | m+1,j,x=>by
  unfold ylF
  split
  ·split
   ·rw [List.length_cons]; exact Nat.succ_le_succ (ylF_len nm pl nx m _ _)
   ·simp
  ·simp
theorem lvl_len {lev:Int} (h:okB T S C H K V L l lev=true):(lvlF T S C H K V L l lev).length≤65:=by
 have h1:=(okB_iff.1 h).1.c
 have h2:=ylF_len (C:=C) (nmF T S C H K V L l) plF (fun x=>atF T S C H K V L l (x % 4294967296) (IntKind.wrap .i64 (6+lev))) (C.toNat+1) 0 (atF T S C H K V L l 0 (IntKind.wrap .i64 (6+lev)))
 unfold lvlF
 omega
theorem lvl_stops (n:Nat) (hn:1≤n) (bw bk:Nat) (G:List Nat) (T S C H K V L:Int) (A:Option Addr) (c:Nat) (l:List Int) (lev:Int) (hok:okB T S C H K V L l lev=true) (w:World) (hBw:w.heap[bw]?=some (.cells #[.int .i64 T,.int .i64 S,.int .i64 C,.int .i64 H,.int .i64 K,.int .i64 V,.int .i64 L,.slice A l.length c] 104 (0,0))) (hBk:w.heap[bk]?=some (.cells #[.int .i64 lev] 3 (0,0))) (hwg:bw ∉ G) (hkg:bk ∉ G) (hC:Stab G w (KC (Kd.int .u64) A c l)) :
  SeqStopsK Fence.wide n Tryz.prog 98 #[.pointer (some ⟨bw,0,none⟩),.pointer (some ⟨bk,0,none⟩)] (fun x:{p:Int × Int // p∈lvlF T S C H K V L l lev}=>#[Value.int .i64 x.1.1,Value.int .u64 x.1.2]) (KG w.heap.size G) (fun ys=>ys=(lvlF T S C H K V L l lev).attach) (fun pre=>pre <+: (lvlF T S C H K V L l lev).attach) (lvlF T S C H K V L l lev).length w:=by
 obtain ⟨hr,hl,h0,h1,_⟩:=okB_iff.1 hok
 have hc:=hr.c
 exact level1_stops n hn bw bk G T S C H K V L A c l lev _ _ _ _ (C.toNat+1) (by omega) (by omega) (at_eq hr hl (isF_lev hr (Int.le_refl _) (by omega) h0 h1)) names_eq plain_eq (fun x hx=>at_eq hr hl (isF_lev hr (by have:=names_ix hx; omega) (names_ix hx).2 h0 h1)) w hBw hBk hwg hkg hC
end
end Go.Eng
namespace Go.Eng
open Go.Proofs Go.RowKit Go.Proofs.YtgbcnokeaaabfaaGreatW.PrintWords
set_option linter.unusedVariables false
set_option linter.unusedSimpArgs false
set_option maxRecDepth 100000 in
set_option maxHeartbeats 4000000 in
theorem level_con (T S C H K V L:Int) (A:Option Addr) (n_ c:Nat) (lev:Int) (w0:World) (Hs:List Nat):Con Tryz.prog 60 #[.agg (cfB T S C H K V L A n_ c),.I lev] w0 Hs [] (fun X=>∀ bw bk,X (.func (.func 98) #[] #[.P bw,.P bk]) [.b bw (.cells (cfB T S C H K V L A n_ c) 104 (0,0)),.b bk (.cells #[.I lev] 3 (0,0))]):=by
 refine con_enter (c:=bodyOf Tryz.f60) Tryz.func60 rfl (m:=6) rfl rfl rfl ?_
 intro X hX _
 refine c_seq rfl ?_
 refine r_ordb (l:=[0,1,2]) rfl (by kernel_rfl) ?_
 refine s_e rfl rfl (e_box rfl rfl rfl rfl) ?_
 intro b3_
 refine s_e rfl rfl (e_box rfl rfl rfl rfl) ?_
 intro b4_
 refine sA rfl ?_
 refine sE rfl ?_
 refine r_ordb (l:=[0,1]) rfl (by kernel_rfl) ?_
 refine sV rfl (v_mf rfl rfl rfl) ?_
 refine sA rfl ?_
 refine sQ ?_
 refine c_ret rfl ?_
 exact q_ret (vs:=[.func (.func 98) #[] #[.P b3_,.P b4_]]) rfl (.tmp rfl .nil) [1,0] rfl (by decide) (hX b3_ b4_)
def shape_Level.b0 (k:Nat) (κ_:(List Int)→Option (List Int)) (x35_ x36_:Int) (st_:(List Int)):Option (List Int):=match st_ with | xs43_=>(if xs43_.length<17592186044416 then κ_ (xs43_ ++ [x36_]) else none)
def shape_Level.f (k:Nat) (p0:Int) (p1:Int) (p2:Int) (p3:Int) (p4:Int) (p5:Int) (p6:Int) (l1:List Int) (a2:Int):Option (List Int):=((sw_whole.f p0 p1 p2 p3 p4 p5 p6 l1).bind fun t56_=>(if t56_=true then (if (a2:Int)<0 then some true else some (decide ((a2:Int)≥p3))) else some true):Option Bool).bind fun j24_=>(if j24_=true then some ([]:List Int) else (if okB p0 p1 p2 p3 p4 p5 p6 l1 a2=true then (if 1000≤k then (rng (shape_Level.b0 k) (lvlF p0 p1 p2 p3 p4 p5 p6 l1 a2) (fun xs43_=>some xs43_) ([]:List Int)) else none) else none))
theorem shape_Level_tot0 (k:Nat) {T S C H K V L lev:Int} {l:List Int} (hfu:1000≤k) (hok:okB T S C H K V L l lev=true) (r:List Int):∀ x∈lvlF T S C H K V L l lev,∀ s:List Int,s.length<1000→∃ r',shape_Level.b0 k (fun _=>some r) x.1 x.2 s=some r':=by
 intro x hx s hs
 exact ⟨r,by unfold shape_Level.b0; exact if_pos (by omega)⟩
set_option maxRecDepth 100000 in
set_option maxHeartbeats 4000000 in
theorem shape_Level_own (k:Nat) (p0:Int) (p1:Int) (p2:Int) (p3:Int) (p4:Int) (p5:Int) (p6:Int) (A1:Option Addr) (c1:Nat) (l1:List Int) (a2:Int) (r0:List Int) (h:shape_Level.f k p0 p1 p2 p3 p4 p5 p6 l1 a2=some r0) (w0:World) (Hs:List Nat):Con Tryz.prog 22 #[.agg (cfA p0 p1 p2 p3 p4 p5 p6),.slice A1 l1.length c1,.I a2] w0 Hs [.f (KU A1 c1 l1)] (fun X=>∀ (ro_r0:Ro),ORow 1 (fun x=>[.U x]) ro_r0 r0→X (.slice (OA ro_r0) r0.length (OC ro_r0)) [OE 41 ro_r0]):=by
 refine con_enterM (c:=bodyOf Tryz.f22) (k:=9) Tryz.func22 rfl (m:=37) rfl rfl rfl ?_
 intro X hX _
 have H:=h
 unfold shape_Level.f at H
 clear h
 refine c_seq rfl ?_
 refine r_ordb (l:=[0,1]) rfl (by kernel_rfl) ?_
 refine s_e rfl rfl (e_box rfl rfl rfl rfl) ?_
 intro b2_
 refine sA rfl ?_
 refine sE rfl ?_
 refine r_ordb (l:=[0,1,2,3,4]) rfl (by kernel_rfl) ?_
 refine sV rfl (vLA (lfA p0 p1 p2 p3 p4 p5 p6) 0 Tryz.underlying23 SZ23 rfl) ?_
 refine sM rfl ?_
 refine sV rfl (v_build (places:=#[(0,7),(7,1)]) (cfB p0 p1 p2 p3 p4 p5 p6 A1 l1.length c1) rfl ZR104 Tryz.underlying104 (by kernel_rfl) rfl (by kernel_rfl)) ?_
 refine s_e rfl rfl (e_alloc rfl rfl rfl ZR104) ?_
 intro b4_
 refine s_e rfl rfl (e_stA 0 rfl rfl SZ104 rfl rfl rfl rfl rfl rfl) ?_
 refine sE rfl ?_
 obtain ⟨j24_,e25_,H⟩:=bind_s H
 refine c_join (β:=Unit) (fun _=>True) (fun _=>[(2,.I a2),(6,.slice none 0 0),(7,.P b4_),(26,.bool j24_)]) (fun _=>[.b b4_ (.cells (cfB p0 p1 p2 p3 p4 p5 p6 A1 l1.length c1) 104 (0,0)),.b b2_ (.cells (cfA p0 p1 p2 p3 p4 p5 p6) 23 (0,0)),.f (KU A1 c1 l1)]) rfl (fun _ _=>?_) (fun J_=>?_)
 rcases Bool.eq_false_or_eq_true j24_ with h26_ | h26_
 subst h26_
 replace H:=ite_y rfl H
 refine c_cond1 rfl rfl ?_
 refine c_seq rfl ?_
 refine r_ordb (l:=[0]) rfl (by kernel_rfl) ?_
 refine sA rfl ?_
 refine sQ ?_
 refine c_ret rfl ?_
 refine q_then_ret ?_
 refine q_know (φ:=fun _=>True) (fun _=>trivial) ?_
 have e_:=Option.some.inj H
 subst e_
 exact q_retM (vs:=[.slice none 0 0]) (.inl rfl) rfl (.tmp rfl .nil) [0] rfl (by decide) (hX none ORow.nil)
 subst h26_
 replace H:=ite_n (by decide) H
 refine c_cond0 rfl rfl ?_
 refine kQ rfl ?_
 refine c_seq rfl ?_
 refine r_ordb (l:=[0]) rfl (by kernel_rfl) ?_
 refine s_e rfl rfl (e_alloc rfl rfl rfl ZR24) ?_
 intro b28_
 refine sE rfl ?_
 refine c_seq rfl ?_
 refine r_ordb (l:=[0,1,2]) rfl (by kernel_rfl) ?_
 refine sV rfl (vLA [.I p0,.I p1,.I p2,.I p3,.I p4,.I p5,.I p6,.slice A1 l1.length c1] 1 Tryz.underlying104 SZ104 rfl) ?_
 refine sM rfl ?_
 refine s_e rfl rfl (eC [] #[.agg (cfB p0 p1 p2 p3 p4 p5 p6 A1 l1.length c1),.I a2] Tryz.func60 (by decide) rfl (fun w ht=>level_con p0 p1 p2 p3 p4 p5 p6 A1 l1.length c1 a2 w _)) ?_
 intro b31_ b32_
 refine sQ ?_
 refine c_block rfl ?_
 obtain ⟨n33_,H⟩:=ite_no H
 obtain ⟨n34_,H⟩:=ite_no H
 refine c_knowT (φ:=fun _=>True) (fun _=>trivial) ?_
 obtain ⟨κ_,hκ_,H⟩:=rng_intro H
 refine c_rangeD (N:=(lvlF p0 p1 p2 p3 p4 p5 p6 l1 a2).length) (S:=fun ys=>ys=(lvlF p0 p1 p2 p3 p4 p5 p6 l1 a2).attach) (Sp:=fun pre=>pre <+: (lvlF p0 p1 p2 p3 p4 p5 p6 l1 a2).attach) (fun x:{p:Int × Int // p∈(lvlF p0 p1 p2 p3 p4 p5 p6 l1 a2)}=>#[Value.I x.1.1,Value.U x.1.2]) (gf:=98) (lb:=[.P b31_,.P b32_]) (ps:=#[30,31]) [3,0] [1,2,4,5,6] (fun pre (s_:Ro × (List Int))=>match s_ with | (ro42_,xs43_)=>ORow 1 (fun x=>[.U x]) ro42_ xs43_∧xs43_.length=pre.length∧(pre <+: (lvlF p0 p1 p2 p3 p4 p5 p6 l1 a2).attach→rng (shape_Level.b0 k) ((lvlF p0 p1 p2 p3 p4 p5 p6 l1 a2).drop pre.length) κ_ xs43_=some r0)) (fun _ _ _=>False) (fun (ro42_,xs43_)=>[.b b28_ (.cells #[.slice (OA ro42_) xs43_.length (OC ro42_)] 24 (0,0)),OE 41 ro42_]) (fun x=>[(10,.U x.1.2),(31,.U x.1.2),(30,.I x.1.1)]) (none,([]:List Int)) rfl rfl rfl (fun _=>rfl) (by decide) Tryz.func98 rfl (by decide) rfl rfl (by decide) ?_ ⟨ORow.nil,rfl,fun _=>H⟩ rfl ?_ ?_ ?_ ?_ ?_
 rintro ⟨ro42_,xs43_⟩ e he
 simp only [List.mem_cons,List.not_mem_nil,or_false] at he
 rcases he with rfl | rfl
 exact .inl ⟨_,_,_,rfl⟩
 rcases ro42_ with _ | ⟨g_,cap_,cur_⟩
 exact .inr rfl
 exact .inl ⟨_,_,_,rfl⟩
 intro w ht
 refine lvl_stops _ (by decide) b31_ b32_ _ p0 p1 p2 p3 p4 p5 p6 A1 c1 l1 a2 n33_ w (ht.at_ _ _ (List.mem_of_getElem? (i:=1) rfl)) (ht.at_ _ _ (List.mem_of_getElem? (i:=2) rfl)) ?_ ?_ ((ht.facts _ (List.mem_of_getElem? (i:=6) rfl)).mono ?_)
 exact tri_disj ht (i:=1) rfl (idx:=[3,0]) rfl (by decide)
 exact tri_disj ht (i:=2) rfl (idx:=[3,0]) rfl (by decide)
 exact fun x hx _=>List.mem_append_right _ (pick_ids (idx:=[3,0]) rfl x hx)
 rintro lv_ ⟨⟨x35_,x36_⟩,hx_⟩ a_ W_ K_ hf_ hk_
 refine assign_one (F1:=[(10,.U x36_),(31,.U x36_),(30,.I x35_)] ++ _) (fr_params2 hf_ rfl rfl) hk_ ?_
 refine r_ordb (l:=[0]) rfl (by kernel_rfl) ?_
 refine sA rfl ?_
 refine s_end ?_
 exact q_assigned (fun _ _ h=>h)
 rintro lv_ pre_ ⟨⟨x35_,x36_⟩,hx_⟩ ⟨ro42_,xs43_⟩ W_ hI_ hlen_
 obtain ⟨hr44_,hl_xs43_,hI_⟩:=hI_
 clear H
 obtain ⟨κ2_,r2_,H,hk_,hr_⟩:=rng_step (shape_Level_tot0 k n34_ n33_ r0) pre_ ⟨(x35_,x36_),hx_⟩ xs43_ (by have:=lvl_len n33_; omega) hI_
 unfold shape_Level.b0 at H
 refine c_block rfl ?_
 refine r_ordb (l:=[0,1,2,3,4]) rfl (by kernel_rfl) ?_
 refine sV rfl (vL 0 Tryz.underlying24 rfl) ?_
 refine sM rfl ?_
 refine s_e rfl rfl (e_bslice #[.U x36_] (.U 0) rfl rfl rfl Tryz.underlying24 SZ41 ZR41 (by decide) rfl (by kernel_rfl)) ?_
 intro b50_
 obtain ⟨n51_,H⟩:=ite_no H
 refine s_e rfl rfl (e_appO (enc:=(fun x=>[.U x])) (v:=x36_) (xs:=xs43_) (ro:=ro42_) (z:=(.U 0)) (m:=1) (bytes:=8) (i:=0) (j:=2) rfl rfl rfl rfl rfl rfl Tryz.underlying24 (by kernel_rfl) rfl (by decide) rfl rfl hr44_ rfl rfl rfl rfl (by simp [Value.oneCell']) (by omega) (by simp only [maxLen]; omega)) ?_
 intro ro52_ hr53_ sm54_
 refine s_e rfl rfl (e_st 1 rfl rfl SZ24 rfl rfl rfl rfl (blt_lt rfl)) ?_
 refine s_end ?_
 refine q_block ?_
 exact q_round (ro52_,(xs43_ ++ [x36_])) [1,2] rfl rfl (by decide) ⟨hr53_,by simp only [List.length_append,List.length_singleton]; omega,hk_ _ H⟩
 rintro D55_ ys_ ⟨ro42_,xs43_⟩ hD_ hS_ hI_
 subst hS_
 obtain ⟨hr44_,hl_xs43_,hI_⟩:=hI_
 have H:=(hκ_ _).symm.trans (rng_done hI_)
 refine q_block ?_
 refine q_seq ?_
 refine c_seq rfl ?_
 refine r_ordb (l:=[0,1]) rfl (by kernel_rfl) ?_
 refine sV rfl (vL 1 Tryz.underlying24 rfl) ?_
 refine sA rfl ?_
 refine sQ ?_
 refine c_ret rfl ?_
 have e_:=Option.some.inj H
 subst e_
 refine q_take [0,1,2,3,4,5,6,7] rfl (by decide) ?_
 exact q_retM1 (vs:=[.slice (OA ro42_) xs43_.length (OC ro42_)]) (.inl rfl) rfl (.tmp rfl .nil) [1] rfl (by decide) (hX ro42_ hr44_)
 rintro D55_ c_ pre_ ⟨ro42_,xs43_⟩ hD_ hS_ hI_
 exact hI_.elim
 clear H
 have H:=e25_
 clear e25_
 refine r_ordb (l:=[0,1,2,3,4,5,6,7,8,9,10,11,12]) rfl (by kernel_rfl) ?_
 refine sV rfl (vLA [.I p0,.I p1,.I p2,.I p3,.I p4,.I p5,.I p6,.slice A1 l1.length c1] 0 Tryz.underlying104 SZ104 rfl) ?_
 obtain ⟨t56_,e57_,H⟩:=bind_s H
 refine s_e rfl rfl (eC [2] #[.agg (cfB p0 p1 p2 p3 p4 p5 p6 A1 l1.length c1)] Tryz.func59 (by decide) rfl (fun w ht=>sw_whole_con p0 p1 p2 p3 p4 p5 p6 A1 c1 l1 t56_ e57_ w _)) ?_
 refine sV rfl (v_not rfl rfl) ?_
 refine sM rfl ?_
 rcases Bool.eq_false_or_eq_true (!t56_) with h58_ | h58_
 replace H:=ite_n (not_t (bnot_t h58_)) H
 refine s_splitv (d:=17) (t:=!t56_) rfl (fun _=>?_) (fun h59_=>absurd (h59_.symm.trans h58_) (by decide))
 refine sN rfl ?_
 refine sN rfl ?_
 refine sP rfl ?_
 refine sM rfl ?_
 refine sN rfl ?_
 refine sN rfl ?_
 refine sN rfl ?_
 refine sN rfl ?_
 refine sP rfl ?_
 refine s_end ?_
 have hq_0:=Option.some.inj H
 subst hq_0
 exact q_seq (c_frame (subF_spec (by exact ⟨rfl,rfl,rfl,rfl,trivial⟩)) (c_take [0,1,2] rfl (by decide) (J_ () trivial)))
 replace H:=ite_y (bnot_f h58_) H
 refine s_splitv (d:=17) (t:=!t56_) rfl (fun h60_=>absurd (h60_.symm.trans h58_) (by decide)) (fun _=>?_)
 refine sG rfl (vM rfl) ?_
 refine sG rfl (vR rfl) ?_
 refine sP rfl ?_
 refine sM rfl ?_
 rcases Bool.eq_false_or_eq_true (decide ((a2:Int)<0)) with h61_ | h61_
 replace H:=ite_y (dec_t h61_) H
 refine s_splitv (d:=21) (t:=decide ((a2:Int)<0)) rfl (fun _=>?_) (fun h62_=>absurd (h62_.symm.trans h61_) (by decide))
 refine sN rfl ?_
 refine sN rfl ?_
 refine sN rfl ?_
 refine sN rfl ?_
 refine sP rfl ?_
 refine s_end ?_
 have hq_0:=Option.some.inj H
 subst hq_0
 exact q_seq (c_frame (subF_spec (by exact ⟨rfl,rfl,rfl,rfl,trivial⟩)) (c_take [0,1,2] rfl (by decide) (J_ () trivial)))
 replace H:=ite_n (dec_f h61_) H
 refine s_splitv (d:=21) (t:=decide ((a2:Int)<0)) rfl (fun h63_=>absurd (h63_.symm.trans h61_) (by decide)) (fun _=>?_)
 refine sG rfl (vM rfl) ?_
 refine sG rfl (vF Tryz.underlying23 SZ3 rfl) ?_
 refine sG rfl (vL 1 Tryz.underlying3 rfl) ?_
 refine sG rfl (vR rfl) ?_
 refine sP rfl ?_
 refine s_end ?_
 have hq_0:=Option.some.inj H
 subst hq_0
 exact q_seq (c_frame (subF_spec (by exact ⟨rfl,rfl,rfl,rfl,trivial⟩)) (c_take [0,1,2] rfl (by decide) (J_ () trivial)))
theorem shape_Level_con (k:Nat) (p0:Int) (p1:Int) (p2:Int) (p3:Int) (p4:Int) (p5:Int) (p6:Int) (A1:Option Addr) (c1:Nat) (l1:List Int) (a2:Int) (r0:List Int) (h:shape_Level.f k p0 p1 p2 p3 p4 p5 p6 l1 a2=some r0) (w0:World) (Hs:List Nat):Con Tryz.prog 22 #[.agg (cfA p0 p1 p2 p3 p4 p5 p6),.slice A1 l1.length c1,.I a2] w0 Hs [.f (KU A1 c1 l1)] (fun X=>∀ A_r0 c_r0,X (.slice A_r0 r0.length c_r0) [.f (KU A_r0 c_r0 r0)]) :=
 con_own (D:=Kd.int .u64) (flat_int .u64) (fun A c => .slice A r0.length c) rfl (shape_Level_own k p0 p1 p2 p3 p4 p5 p6 A1 c1 l1 a2 r0 h w0 Hs)
def sw_node.l0:Nat→Int→Int→Int→Int→Int→Int→Int→List Int→Int→Int→Int→Option Bool
 | 0,_,_,_,_,_,_,_,_,_,_,_=>none
 | k+1,p0,p1,p2,p3,p4,p5,p6,l0_7,a1,t5_,x78_=>(if (x78_:Int)<(IntKind.wrap .i64 t5_) then (sw_marked.f p0 p1 p2 p3 p4 p5 p6 l0_7 a1 x78_).bind fun t100_=>(if t100_=true then sw_node.l0 k p0 p1 p2 p3 p4 p5 p6 l0_7 a1 t5_ (IntKind.wrap .i64 (x78_+1)) else some false) else (sw_at.f p0 p1 p2 p3 p4 p5 p6 l0_7 (a1 % 4294967296) 2).bind fun t110_=>(slot_Dead.f t110_).bind fun t112_=>some t112_)
def sw_node.f (k:Nat) (p0:Int) (p1:Int) (p2:Int) (p3:Int) (p4:Int) (p5:Int) (p6:Int) (l0_7:List Int) (a1:Int) (a2:Int):Option Bool:=(sw_at.f p0 p1 p2 p3 p4 p5 p6 l0_7 (a1 % 4294967296) 4).bind fun t5_=>((sw_taken.f p0 p1 p2 p3 p4 p5 p6 l0_7 a1).bind fun t114_=>(if t114_=true then (if (t5_:Int)≤(IntKind.wrap .u64 a2) then some true else some (decide ((t5_:Int) > (IntKind.wrap .u64 p3)))) else some true):Option Bool).bind fun j26_=>(if j26_=true then some false else (sw_marked.f p0 p1 p2 p3 p4 p5 p6 l0_7 a1 a2).bind fun t45_=>(if t45_=true then sw_node.l0 k p0 p1 p2 p3 p4 p5 p6 l0_7 a1 t5_ (IntKind.wrap .i64 (a2+1)) else ((if (a2:Int)=0 then some true else (shape_Level.f k p0 p1 p2 p3 p4 p5 p6 l0_7 (IntKind.wrap .i64 (a2 - 1))).bind fun t63_=>(slices_Contains_uint64_uint64.f k t63_ a1).bind fun t67_=>some t67_):Option Bool).bind fun j58_=>some j58_))
set_option maxRecDepth 100000 in
set_option maxHeartbeats 4000000 in
theorem sw_node_con (k:Nat) (p0:Int) (p1:Int) (p2:Int) (p3:Int) (p4:Int) (p5:Int) (p6:Int) (A0_7:Option Addr) (c0_7:Nat) (l0_7:List Int) (a1:Int) (a2:Int) (r0:Bool) (h:sw_node.f k p0 p1 p2 p3 p4 p5 p6 l0_7 a1 a2=some r0) (w0:World) (Hs:List Nat):Con Tryz.prog 128 #[.agg (cfB p0 p1 p2 p3 p4 p5 p6 A0_7 l0_7.length c0_7),.U a1,.I a2] w0 Hs [.f (KU A0_7 c0_7 l0_7)] (fun X=>X (.bool r0) []):=by
 refine con_enter (c:=bodyOf Tryz.f128) Tryz.func128 rfl (m:=68) rfl rfl rfl ?_
 intro X hX _
 have H:=h
 unfold sw_node.f at H
 clear h
 refine c_seq rfl ?_
 refine r_ordb (l:=[0,1]) rfl (by kernel_rfl) ?_
 refine s_e rfl rfl (e_box rfl rfl rfl rfl) ?_
 intro b2_
 refine sA rfl ?_
 refine sE rfl ?_
 refine r_ordb (l:=[0,1,2]) rfl (by kernel_rfl) ?_
 refine sM rfl ?_
 refine s_e rfl rfl (eC [] #[.U a1] Tryz.func30 (by decide) rfl (fun w ht=>handle_Index_con a1 w _)) ?_
 refine sA rfl ?_
 refine sE rfl ?_
 refine r_ordb (l:=[0,1,2,3]) rfl (by kernel_rfl) ?_
 refine sV rfl (vLA [.I p0,.I p1,.I p2,.I p3,.I p4,.I p5,.I p6,.slice A0_7 l0_7.length c0_7] 0 Tryz.underlying104 SZ104 rfl) ?_
 refine sM rfl ?_
 obtain ⟨t5_,e6_,H⟩:=bind_s H
 refine s_e rfl rfl (eC [1] #[.agg (cfB p0 p1 p2 p3 p4 p5 p6 A0_7 l0_7.length c0_7),.I (a1 % 4294967296),.I 4] Tryz.func78 (by decide) rfl (fun w ht=>sw_at_con p0 p1 p2 p3 p4 p5 p6 A0_7 c0_7 l0_7 (a1 % 4294967296) 4 t5_ e6_ w _)) ?_
 refine sA rfl ?_
 refine sE rfl ?_
 obtain ⟨j26_,e27_,H⟩:=bind_s H
 refine c_join (β:=Unit) (fun _=>True) (fun _=>[(1,.U a1),(2,.I a2),(3,.P b2_),(6,.bool false),(7,.I (a1 % 4294967296)),(8,.U t5_),(32,.bool j26_)]) (fun _=>[.b b2_ (.cells (cfB p0 p1 p2 p3 p4 p5 p6 A0_7 l0_7.length c0_7) 104 (0,0)),.f (KU A0_7 c0_7 l0_7)]) rfl (fun _ _=>?_) (fun J_=>?_)
 rcases Bool.eq_false_or_eq_true j26_ with h28_ | h28_
 subst h28_
 replace H:=ite_y rfl H
 refine c_cond1 rfl rfl ?_
 refine c_seq rfl ?_
 refine r_ordb (l:=[0]) rfl (by kernel_rfl) ?_
 refine sA rfl ?_
 refine sQ ?_
 refine c_ret rfl ?_
 refine q_then_ret ?_
 have e_:=Option.some.inj H
 subst e_
 exact q_ret (vs:=[.bool false]) rfl (.tmp rfl .nil) [] rfl (by decide) (hX)
 subst h28_
 replace H:=ite_n (by decide) H
 refine c_cond0 rfl rfl ?_
 refine kQ rfl ?_
 refine c_seq rfl ?_
 refine c_seq rfl ?_
 refine r_ordb (l:=[0,1,2,3,4]) rfl (by kernel_rfl) ?_
 refine sV rfl (vLA [.I p0,.I p1,.I p2,.I p3,.I p4,.I p5,.I p6,.slice A0_7 l0_7.length c0_7] 0 Tryz.underlying104 SZ104 rfl) ?_
 refine sM rfl ?_
 refine sM rfl ?_
 obtain ⟨t45_,e46_,H⟩:=bind_s H
 refine s_e rfl rfl (eC [1] #[.agg (cfB p0 p1 p2 p3 p4 p5 p6 A0_7 l0_7.length c0_7),.U a1,.I a2] Tryz.func114 (by decide) rfl (fun w ht=>sw_marked_con p0 p1 p2 p3 p4 p5 p6 A0_7 c0_7 l0_7 a1 a2 t45_ e46_ w _)) ?_
 refine sV rfl (v_not rfl rfl) ?_
 refine sQ ?_
 rcases Bool.eq_false_or_eq_true (!t45_) with h47_ | h47_
 replace H:=ite_n (not_t (bnot_t h47_)) H
 refine cT h47_ rfl ?_
 obtain ⟨j58_,e59_,H⟩:=bind_s H
 refine c_join (β:=Unit) (fun _=>True) (fun _=>[(1,.U a1),(2,.I a2),(3,.P b2_),(6,.bool j58_),(7,.I (a1 % 4294967296)),(8,.U t5_)]) (fun _=>[.b b2_ (.cells (cfB p0 p1 p2 p3 p4 p5 p6 A0_7 l0_7.length c0_7) 104 (0,0)),.f (KU A0_7 c0_7 l0_7)]) rfl (fun _ _=>?_) (fun J_=>?_)
 refine c_ret rfl ?_
 refine q_then_ret ?_
 have e_:=Option.some.inj H
 subst e_
 exact q_ret (vs:=[.bool j58_]) rfl (.tmp rfl .nil) [] rfl (by decide) (hX)
 clear H
 have H:=e59_
 clear e59_
 refine r_ordb (l:=[0,1,2,3,4,5,6,7,8,9,10,11,12,13]) rfl (by kernel_rfl) ?_
 refine sM rfl ?_
 refine sR rfl ?_
 refine sM rfl ?_
 rcases Bool.eq_false_or_eq_true ((a2:Int) == 0) with h60_ | h60_
 replace H:=ite_y (ibeq_t h60_) H
 refine s_splitv (d:=40) (t:=(a2:Int) == 0) rfl (fun _=>?_) (fun h61_=>absurd (h61_.symm.trans h60_) (by decide))
 refine sN rfl ?_
 refine sN rfl ?_
 refine sN rfl ?_
 refine sN rfl ?_
 refine sN rfl ?_
 refine sN rfl ?_
 refine sN rfl ?_
 refine sN rfl ?_
 refine sN rfl ?_
 refine sP rfl ?_
 refine sA rfl ?_
 refine s_end ?_
 have hq_0:=Option.some.inj H
 subst hq_0
 exact q_seq (c_frame (subF_spec (by exact ⟨rfl,rfl,rfl,rfl,rfl,rfl,trivial⟩)) (c_take [0,1] rfl (by decide) (J_ () trivial)))
 replace H:=ite_n (ibeq_f h60_) H
 refine s_splitv (d:=40) (t:=(a2:Int) == 0) rfl (fun h62_=>absurd (h62_.symm.trans h60_) (by decide)) (fun _=>?_)
 refine sG rfl (vF Tryz.underlying104 SZ23 rfl) ?_
 refine sG rfl (vLA (lfA p0 p1 p2 p3 p4 p5 p6) 0 Tryz.underlying23 SZ23 rfl) ?_
 refine sG rfl (vF Tryz.underlying104 SZ24 rfl) ?_
 refine sG rfl (vL 0 Tryz.underlying24 rfl) ?_
 refine sG rfl (vM rfl) ?_
 refine sG rfl (vR rfl) ?_
 obtain ⟨t63_,e64_,H⟩:=bind_s H
 refine s_eg rfl rfl (eC [1] #[.agg (cfA p0 p1 p2 p3 p4 p5 p6),.slice A0_7 l0_7.length c0_7,.I (IntKind.wrap .i64 (a2 - 1))] Tryz.func22 (by decide) rfl (fun w ht=>shape_Level_con _ p0 p1 p2 p3 p4 p5 p6 A0_7 c0_7 l0_7 (IntKind.wrap .i64 (a2 - 1)) t63_ e64_ w _)) ?_
 intro A65_ c66_
 refine sG rfl (vM rfl) ?_
 obtain ⟨t67_,e68_,H⟩:=bind_s H
 refine s_eg rfl rfl (eC [0] #[.slice A65_ t63_.length c66_,.U a1] Tryz.func64 (by decide) rfl (fun w ht=>slices_Contains_uint64_uint64_con _ A65_ c66_ t63_ a1 t67_ e68_ w _)) ?_
 refine sP rfl ?_
 refine sA rfl ?_
 refine s_end ?_
 have hq_0:=Option.some.inj H
 subst hq_0
 exact q_seq (c_frame (subF_spec (by exact ⟨rfl,rfl,rfl,rfl,rfl,rfl,trivial⟩)) (c_take [1,2] rfl (by decide) (J_ () trivial)))
 replace H:=ite_y (bnot_f h47_) H
 refine cF h47_ rfl ?_
 refine kQ rfl ?_
 refine c_seq rfl ?_
 refine c_seq rfl ?_
 refine r_ordb (l:=[0,1,2]) rfl (by kernel_rfl) ?_
 refine sM rfl ?_
 refine sR rfl ?_
 refine sA rfl ?_
 refine sQ ?_
 refine c_block rfl ?_
 refine c_loop (σ:=Nat × Int) (fun (k,x78_)=>sw_node.l0 k p0 p1 p2 p3 p4 p5 p6 l0_7 a1 t5_ x78_=some r0) (fun (k,x78_)=>k) (fun (k,x78_)=>[(1,.U a1),(3,.P b2_),(6,.bool false),(7,.I (a1 % 4294967296)),(8,.U t5_),(9,.I x78_)]) (fun (k,x78_)=>[.b b2_ (.cells (cfB p0 p1 p2 p3 p4 p5 p6 A0_7 l0_7.length c0_7) 104 (0,0)),.f (KU A0_7 c0_7 l0_7)]) (k,IntKind.wrap .i64 (a2+1)) [0,1] rfl H (subF_spec ⟨rfl,rfl,rfl,rfl,rfl,rfl,trivial⟩) rfl (by decide) ?_
 rintro ⟨k0_,x78_⟩ hs87_
 clear H
 have H:sw_node.l0 k0_ p0 p1 p2 p3 p4 p5 p6 l0_7 a1 t5_ x78_=some r0:=hs87_
 try clear hs87_
 rcases k0_ with _ | k0_
 exact none_no (show none=_ from H)
 unfold sw_node.l0 at H
 have hko_0:k0_≤k0_:=Nat.le_refl _
 refine c_seq rfl ?_
 refine c_seq rfl ?_
 refine r_ordb (l:=[0,1,2,3]) rfl (by kernel_rfl) ?_
 refine sM rfl ?_
 refine sM rfl ?_
 refine sV rfl (v_conv rfl Tryz.underlying41 Tryz.underlying3 rfl) ?_
 refine sR rfl ?_
 refine sQ ?_
 rcases Bool.eq_false_or_eq_true (decide ((x78_:Int)<(IntKind.wrap .i64 t5_))) with h91_ | h91_
 replace H:=ite_y (dec_t h91_) H
 refine cT h91_ rfl ?_
 refine kQ rfl ?_
 refine c_seq rfl ?_
 refine c_block rfl ?_
 refine c_seq rfl ?_
 refine r_ordb (l:=[0,1,2,3,4]) rfl (by kernel_rfl) ?_
 refine sV rfl (vLA [.I p0,.I p1,.I p2,.I p3,.I p4,.I p5,.I p6,.slice A0_7 l0_7.length c0_7] 0 Tryz.underlying104 SZ104 rfl) ?_
 refine sM rfl ?_
 refine sM rfl ?_
 obtain ⟨t100_,e101_,H⟩:=bind_s H
 refine s_e rfl rfl (eC [1] #[.agg (cfB p0 p1 p2 p3 p4 p5 p6 A0_7 l0_7.length c0_7),.U a1,.I x78_] Tryz.func114 (by decide) rfl (fun w ht=>sw_marked_con p0 p1 p2 p3 p4 p5 p6 A0_7 c0_7 l0_7 a1 x78_ t100_ e101_ w _)) ?_
 refine sV rfl (v_not rfl rfl) ?_
 refine sQ ?_
 rcases Bool.eq_false_or_eq_true (!t100_) with h102_ | h102_
 replace H:=ite_n (not_t (bnot_t h102_)) H
 refine cT h102_ rfl ?_
 refine c_seq rfl ?_
 refine r_ordb (l:=[0]) rfl (by kernel_rfl) ?_
 refine sA rfl ?_
 refine sQ ?_
 refine c_ret rfl ?_
 refine q_block_ret ?_
 refine q_then_ret ?_
 refine q_then_ret ?_
 refine q_block_ret ?_
 refine q_then_ret ?_
 have e_:=Option.some.inj H
 subst e_
 exact q_ret (vs:=[.bool false]) rfl (.tmp rfl .nil) [] rfl (by decide) (hX)
 replace H:=ite_y (bnot_f h102_) H
 refine cF h102_ rfl ?_
 refine c_skip rfl ?_
 refine q_block ?_
 refine q_seq ?_
 refine r_ordb (l:=[0,1,2]) rfl (by kernel_rfl) ?_
 refine sM rfl ?_
 refine sR rfl ?_
 refine sA rfl ?_
 refine s_end ?_
 exact q_again (k0_,IntKind.wrap .i64 (x78_+1)) [0,1] H (Nat.lt_succ_of_le hko_0) (subF_spec ⟨rfl,rfl,rfl,rfl,rfl,rfl,trivial⟩) rfl (by decide)
 replace H:=ite_n (dec_f h91_) H
 refine cF h91_ rfl ?_
 refine c_exit (i:=0) rfl rfl ?_
 refine q_then_exit ?_
 refine q_then_exit ?_
 refine q_block_here rfl ?_
 refine q_seq ?_
 refine c_seq rfl ?_
 refine r_ordb (l:=[0,1,2,3,4]) rfl (by kernel_rfl) ?_
 refine sV rfl (vLA [.I p0,.I p1,.I p2,.I p3,.I p4,.I p5,.I p6,.slice A0_7 l0_7.length c0_7] 0 Tryz.underlying104 SZ104 rfl) ?_
 refine sM rfl ?_
 obtain ⟨t110_,e111_,H⟩:=bind_s H
 refine s_e rfl rfl (eC [1] #[.agg (cfB p0 p1 p2 p3 p4 p5 p6 A0_7 l0_7.length c0_7),.I (a1 % 4294967296),.I 2] Tryz.func78 (by decide) rfl (fun w ht=>sw_at_con p0 p1 p2 p3 p4 p5 p6 A0_7 c0_7 l0_7 (a1 % 4294967296) 2 t110_ e111_ w _)) ?_
 obtain ⟨t112_,e113_,H⟩:=bind_s H
 refine s_e rfl rfl (eC [] #[.U t110_] Tryz.func113 (by decide) rfl (fun w ht=>slot_Dead_con t110_ t112_ e113_ w _)) ?_
 refine sA rfl ?_
 refine sQ ?_
 refine c_ret rfl ?_
 have e_:=Option.some.inj H
 subst e_
 exact q_ret (vs:=[.bool t112_]) rfl (.tmp rfl .nil) [] rfl (by decide) (hX)
 clear H
 have H:=e27_
 clear e27_
 refine r_ordb (l:=[0,1,2,3,4,5,6,7,8,9,10,11,12,13,14,15,16,17]) rfl (by kernel_rfl) ?_
 refine sV rfl (vLA [.I p0,.I p1,.I p2,.I p3,.I p4,.I p5,.I p6,.slice A0_7 l0_7.length c0_7] 0 Tryz.underlying104 SZ104 rfl) ?_
 refine sM rfl ?_
 obtain ⟨t114_,e115_,H⟩:=bind_s H
 refine s_e rfl rfl (eC [1] #[.agg (cfB p0 p1 p2 p3 p4 p5 p6 A0_7 l0_7.length c0_7),.U a1] Tryz.func77 (by decide) rfl (fun w ht=>sw_taken_con p0 p1 p2 p3 p4 p5 p6 A0_7 c0_7 l0_7 a1 t114_ e115_ w _)) ?_
 refine sV rfl (v_not rfl rfl) ?_
 refine sM rfl ?_
 rcases Bool.eq_false_or_eq_true (!t114_) with h116_ | h116_
 replace H:=ite_n (not_t (bnot_t h116_)) H
 refine s_splitv (d:=19) (t:=!t114_) rfl (fun _=>?_) (fun h117_=>absurd (h117_.symm.trans h116_) (by decide))
 refine sN rfl ?_
 refine sN rfl ?_
 refine sN rfl ?_
 refine sN rfl ?_
 refine sP rfl ?_
 refine sM rfl ?_
 refine sN rfl ?_
 refine sN rfl ?_
 refine sN rfl ?_
 refine sN rfl ?_
 refine sN rfl ?_
 refine sN rfl ?_
 refine sP rfl ?_
 refine s_end ?_
 have hq_0:=Option.some.inj H
 subst hq_0
 exact q_seq (c_frame (subF_spec (by exact ⟨rfl,rfl,rfl,rfl,rfl,rfl,rfl,trivial⟩)) (c_take [0,1] rfl (by decide) (J_ () trivial)))
 replace H:=ite_y (bnot_f h116_) H
 refine s_splitv (d:=19) (t:=!t114_) rfl (fun h118_=>absurd (h118_.symm.trans h116_) (by decide)) (fun _=>?_)
 refine sG rfl (vM rfl) ?_
 refine sG rfl (vM rfl) ?_
 refine sG rfl (v_conv rfl Tryz.underlying3 Tryz.underlying41 rfl) ?_
 refine sG rfl (vR rfl) ?_
 refine sP rfl ?_
 refine sM rfl ?_
 rcases Bool.eq_false_or_eq_true (decide ((t5_:Int)≤(IntKind.wrap .u64 a2))) with h119_ | h119_
 replace H:=ite_y (dec_t h119_) H
 refine s_splitv (d:=25) (t:=decide ((t5_:Int)≤(IntKind.wrap .u64 a2))) rfl (fun _=>?_) (fun h120_=>absurd (h120_.symm.trans h119_) (by decide))
 refine sN rfl ?_
 refine sN rfl ?_
 refine sN rfl ?_
 refine sN rfl ?_
 refine sN rfl ?_
 refine sN rfl ?_
 refine sP rfl ?_
 refine s_end ?_
 have hq_0:=Option.some.inj H
 subst hq_0
 exact q_seq (c_frame (subF_spec (by exact ⟨rfl,rfl,rfl,rfl,rfl,rfl,rfl,trivial⟩)) (c_take [0,1] rfl (by decide) (J_ () trivial)))
 replace H:=ite_n (dec_f h119_) H
 refine s_splitv (d:=25) (t:=decide ((t5_:Int)≤(IntKind.wrap .u64 a2))) rfl (fun h121_=>absurd (h121_.symm.trans h119_) (by decide)) (fun _=>?_)
 refine sG rfl (vM rfl) ?_
 refine sG rfl (vF Tryz.underlying104 SZ23 rfl) ?_
 refine sG rfl (vF Tryz.underlying23 SZ3 rfl) ?_
 refine sG rfl (vL 0 Tryz.underlying3 rfl) ?_
 refine sG rfl (v_conv rfl Tryz.underlying3 Tryz.underlying41 rfl) ?_
 refine sG rfl (vR rfl) ?_
 refine sP rfl ?_
 refine s_end ?_
 have hq_0:=Option.some.inj H
 subst hq_0
 exact q_seq (c_frame (subF_spec (by exact ⟨rfl,rfl,rfl,rfl,rfl,rfl,rfl,trivial⟩)) (c_take [0,1] rfl (by decide) (J_ () trivial)))
def sw_right.b0 (k:Nat) (p0:Int) (p1:Int) (p2:Int) (p3:Int) (p4:Int) (p5:Int) (p6:Int) (l0_7:List Int) (a1:Int) (κ_:(Int × Int)→Option Bool) (x29_ x30_:Int) (st_:Int × Int):Option Bool:=match st_ with | (x61_,x62_)=>((if (x29_:Int)=0 then some true else (sw_at.f p0 p1 p2 p3 p4 p5 p6 l0_7 (x30_ % 4294967296) 1).bind fun t133_=>some (decide ((x61_:Int)<t133_))):Option Bool).bind fun j96_=>((if (x29_:Int)≥p2 then some true else (if j96_=true then (sw_node.f k p0 p1 p2 p3 p4 p5 p6 l0_7 x30_ a1).bind fun t130_=>some (!t130_) else some true)):Option Bool).bind fun j117_=>(if j117_=true then some false else (sw_at.f p0 p1 p2 p3 p4 p5 p6 l0_7 (x30_ % 4294967296) 1).bind fun t120_=>(sw_at.f p0 p1 p2 p3 p4 p5 p6 l0_7 (x30_ % 4294967296) (IntKind.wrap .i64 (6+a1))).bind fun t122_=>κ_ (t120_,t122_))
def sw_right.f (k:Nat) (p0:Int) (p1:Int) (p2:Int) (p3:Int) (p4:Int) (p5:Int) (p6:Int) (l0_7:List Int) (a1:Int):Option Bool:=(sw_at.f p0 p1 p2 p3 p4 p5 p6 l0_7 0 (IntKind.wrap .i64 (6+a1))).bind fun t10_=>(handle_Marked.f t10_).bind fun t18_=>(if t18_=true then some false else (if okB p0 p1 p2 p3 p4 p5 p6 l0_7 a1=true then (if 1000≤k then (rng (sw_right.b0 k p0 p1 p2 p3 p4 p5 p6 l0_7 a1) (lvlF p0 p1 p2 p3 p4 p5 p6 l0_7 a1) (fun (x61_,x62_)=>(handle_Valid.f x62_).bind fun t140_=>some (!t140_)) (0,t10_)) else none) else none))
theorem plF_ix (x:Int):plF x % 4294967296=x % 4294967296:=by
 unfold plF handle_Plain.f
 have h:∀ b c:BitVec 64,c.setWidth 32=0#32→(b &&& ~~~c).toNat % 4294967296=b.toNat % 4294967296:=by
  intro b c hc
  have h1:(b &&& ~~~c).setWidth 32=b.setWidth 32:=by
   rw [BitVec.setWidth_and,BitVec.setWidth_not (by decide),hc,show (~~~(0#32):BitVec 32)=BitVec.allOnes 32 from by decide,BitVec.and_allOnes]
  have h2:=congrArg BitVec.toNat h1
  rw [BitVec.toNat_setWidth,BitVec.toNat_setWidth] at h2
  exact h2
 have h1:=h (BitVec.ofInt 64 x) (BitVec.ofInt 64 4611686018427387904) (by decide)
 have h2:((BitVec.ofInt 64 x).toNat:Int)=x % 18446744073709551616:=by
  rw [BitVec.toNat_ofInt]
  have:0≤x % ((2 ^ 64:Nat):Int):=Int.emod_nonneg _ (by decide)
  rw [Int.toNat_of_nonneg this]
  rfl
 have h3:(((BitVec.ofInt 64 x &&& ~~~ BitVec.ofInt 64 4611686018427387904).toNat:Nat):Int) % 4294967296=x % 4294967296:=by omega
 have key:∀ n:Nat,n<18446744073709551616→(n:Int) % 4294967296=x % 4294967296→(some (IntKind.wrap .u64 (n:Int))).getD 0 % 4294967296=x % 4294967296:=fun n hn he=>by
  rw [wu64 (by omega) (by omega)]
  exact he
 exact key _ (BitVec.isLt _) h3
theorem ylF_mem {C:Int} {nm:Int→Bool} {pl nx:Int→Int}:∀ (m:Nat) (j x:Int),0≤j→∀ p∈ylF C nm pl nx m j x,0≤p.1∧p.1≤C∧∃ y,nm y=true∧p.2=pl y
 | 0,_,_,_,p,hp=>by cases hp
 | m+1,j,x,hj,p,hp=>by
  unfold ylF at hp
  split at hp
  ·split at hp
   ·rcases List.mem_cons.1 hp with rfl | hp
    ·exact ⟨hj,by assumption,x,by assumption,rfl⟩
    ·exact ylF_mem m _ _ (by omega) p hp
   ·cases hp
  ·cases hp
theorem lvl_mem {T S C H K V L lev:Int} {l:List Int} {p:Int × Int} (hp:p∈lvlF T S C H K V L l lev):0≤p.1∧p.1≤C∧1≤p.2 % 4294967296∧p.2 % 4294967296≤C:=by
 obtain ⟨h1,h2,y,h3,h4⟩:=ylF_mem _ _ _ (Int.le_refl 0) p hp
 rw [h4,plF_ix]
 exact ⟨h1,h2,names_ix h3⟩
theorem level_rng (k:Nat) (κ:List Int→Option (List Int)):∀ (ys:List (Int × Int)) (xs:List Int),xs.length+ys.length<1000→rng (shape_Level.b0 k) ys κ xs=κ (xs ++ ys.map (·.2))
 | [],xs,_=>by rw [List.map_nil,List.append_nil]; rfl
 | y :: ys,xs,h=>by
  rw [List.length_cons] at h
  have e:rng (shape_Level.b0 k) (y :: ys) κ xs=if xs.length<17592186044416 then rng (shape_Level.b0 k) ys κ (xs ++ [y.2]) else none:=rfl
  rw [e,if_pos (by omega),level_rng k κ ys _ (by rw [List.length_append,List.length_singleton]; omega),List.append_assoc]
  rfl
theorem whole_is (T S C H K V L:Int) (l:List Int):sw_whole.f T S C H K V L l=some (r7 T S C H K V L && decide ((l.length:Int)=lenI T S C H)):=by
 unfold sw_whole.f
 rw [plan_Right_is,plan_Len_is]
 simp only [Option.bind_some]
 by_cases h:r7 T S C H K V L=true
 ·rw [if_pos h,if_pos h,h]
  simp only [Option.bind_some,Bool.true_and]
  rw [Bool.eq_iff_iff.2 (show ((l.length:Int) == lenI T S C H)=true↔decide ((l.length:Int)=lenI T S C H)=true by simp)]
 ·rw [if_neg h]
  rw [Bool.not_eq_true] at h
  rw [h]
  rfl
theorem Level_is {k:Nat} (hk:1000≤k) (T S C H K V L:Int) (l:List Int) (hp:∀ x∈l,0≤x) (lev:Int):shape_Level.f k T S C H K V L l lev=some (if okB T S C H K V L l lev=true then (lvlF T S C H K V L l lev).map (·.2) else []):=by
 unfold shape_Level.f
 rw [whole_is]
 simp only [Option.bind_some]
 by_cases h:okB T S C H K V L l lev=true
 ·obtain ⟨h1,h2,h3,h4,_⟩:=okB_iff.1 h
  have hl:=lvl_len h
  rw [if_pos h,if_pos h,if_pos hk,level_rng k _ _ _ (by simp only [List.length_nil]; omega),r7_iff.2 h1,decide_eq_true h2,Bool.and_self,if_pos rfl,if_neg (by omega),decide_eq_false (by omega)]
  simp
 ·rw [if_neg h,if_neg h]
  by_cases h1:(r7 T S C H K V L && decide ((l.length:Int)=lenI T S C H))=true
  ·rw [if_pos h1]
   by_cases h2:lev<0
   ·rw [if_pos h2]; rfl
   ·rw [if_neg h2]
    have h3:lev≥H:=by
     rw [Bool.and_eq_true,r7_iff,decide_eq_true_eq] at h1
     rw [okB_iff] at h
     have:=h1.1; have:=h1.2
     exact Int.not_lt.1 (fun h4=>h ⟨h1.1,h1.2,by omega,h4,hp⟩)
    rw [decide_eq_true h3]; rfl
  ·rw [if_neg h1]; rfl
theorem index_l0 {l:List Int} (hb:l.length≤1000) (a:Int):∀ (m k i:Nat),l.length=i+m→m<k→∃ r,slices_Index_uint64_uint64.l0 k l a (i:Int)=some r
 | 0,0,i,_,h=>absurd h (by decide)
 | m+1,0,i,_,h=>absurd h (by omega)
 | 0,k+1,i,hl,_=>⟨-1,by rw [slices_Index_uint64_uint64.l0,if_neg (by omega)]⟩
 | m+1,k+1,i,hl,h=>by
  have e2:IntKind.wrap .i64 ((i:Int)+1)=((i+1:Nat):Int):=by rw [wi64 (by omega) (by omega)]; rfl
  rw [slices_Index_uint64_uint64.l0,if_pos (by omega),if_pos (by omega),e2]
  split
  ·exact ⟨_,rfl⟩
  ·exact index_l0 hb a m k (i+1) (by omega) (by omega)
theorem contains_tot {k:Nat} (hk:1000≤k) {l:List Int} (hb:l.length≤100) (a:Int):∃ r,slices_Contains_uint64_uint64.f k l a=some r:=by
 obtain ⟨r,hr⟩:=index_l0 (l:=l) (by omega) a l.length k 0 (by omega) (by omega)
 unfold slices_Contains_uint64_uint64.f slices_Index_uint64_uint64.f
 exact ⟨_,by rw [show ((0:Nat):Int)=0 from rfl] at hr; rw [hr]; rfl⟩
theorem meta_tot (a b:Int):∃ x y,slot_Meta.f a b=some (x,y):=by
 unfold slot_Meta.f slot_word_right.f slot_word_packed.f
 simp only [Option.bind_some]
 generalize ((a == (if (0:Int)<(if (2:Int)<a then 2 else a) then (if (2:Int)<a then 2 else a) else 0)) && (b == (if (0:Int)<(if (1073741823:Int)<b then 1073741823 else b) then (if (1073741823:Int)<b then 1073741823 else b) else 0)))=q
 cases q
 ·exact ⟨_,_,rfl⟩
 ·exact ⟨_,_,rfl⟩
section
variable {T S C H K V L:Int} {l:List Int}
theorem taken_tot (hr:R7 T S C H K V L) (hl:(l.length:Int)=lenI T S C H) {h:Int} (h1:0≤h % 4294967296) (h2:h % 4294967296≤C):∃ r,sw_taken.f T S C H K V L l h=some r:=by
 obtain ⟨x,y,e⟩:=meta_tot 1 (h / 4294967296 % 1073741824)
 have hf:isF C H (h % 4294967296) 0=true:=isF_iff.2 ⟨h1,h2,Int.le_refl _,by have:=hr.h; omega⟩
 unfold sw_taken.f
 rw [e,at_some hr hl hf]
 exact ⟨_,rfl⟩
theorem marked_tot (hr:R7 T S C H K V L) (hl:(l.length:Int)=lenI T S C H) {h lev:Int} (h1:0≤h % 4294967296) (h2:h % 4294967296≤C) (h3:0≤lev) (h4:lev<H):∃ r,sw_marked.f T S C H K V L l h lev=some r:=by
 unfold sw_marked.f handle_Marked.f
 rw [at_eq hr hl (isF_lev hr h1 h2 h3 h4)]
 exact ⟨_,rfl⟩
theorem node_l0 (hr:R7 T S C H K V L) (hl:(l.length:Int)=lenI T S C H) {h:Int} (h1:0≤h % 4294967296) (h2:h % 4294967296≤C) (t:Int) (h0:0≤t) (ht:t≤H):∀ (m k:Nat) (x:Int),0≤x→t - x≤m→m<k→∃ r,sw_node.l0 k T S C H K V L l h t x=some r:=by
 intro m
 have hH:=hr.h
 have hw:IntKind.wrap .i64 t=t:=wi64 (by omega) (by omega)
 have hend:∃ r,((sw_at.f T S C H K V L l (h % 4294967296) 2).bind fun t110_=>(slot_Dead.f t110_).bind fun t112_=>some t112_)=some r:=by
  have hf:isF C H (h % 4294967296) 2=true:=isF_iff.2 ⟨h1,h2,by omega,by omega⟩
  rw [at_some hr hl hf]
  unfold slot_Dead.f
  exact ⟨_,rfl⟩
 induction m with
 | zero =>
  intro k x hx hm hk
  cases k with
  | zero=>omega
  | succ k =>
   rw [sw_node.l0,hw,if_neg (by omega)]
   exact hend
 | succ m ih =>
  intro k x hx hm hk
  cases k with
  | zero=>omega
  | succ k =>
   rw [sw_node.l0,hw]
   by_cases hlt:x<t
   ·rw [if_pos hlt]
    obtain ⟨r,e⟩:=marked_tot hr hl h1 h2 hx (show x<H by omega)
    have e2:IntKind.wrap .i64 (x+1)=x+1:=wi64 (by omega) (by omega)
    rw [e,e2]
    simp only [Option.bind_some]
    split
    ·exact ih k (x+1) (by omega) (by omega) (by omega)
    ·exact ⟨_,rfl⟩
   ·rw [if_neg hlt]
    exact hend
theorem node_tot {k:Nat} (hk:1000≤k) {lev:Int} (hok:okB T S C H K V L l lev=true) {h:Int} (h1:0≤h % 4294967296) (h2:h % 4294967296≤C):∃ r,sw_node.f k T S C H K V L l h lev=some r:=by
 obtain ⟨hr,hl,h3,h4,hp⟩:=okB_iff.1 hok
 have hH:=hr.h
 have hf:isF C H (h % 4294967296) 4=true:=isF_iff.2 ⟨h1,h2,by omega,by omega⟩
 obtain ⟨tk,etk⟩:=taken_tot hr hl h1 h2
 obtain ⟨mk,emk⟩:=marked_tot hr hl h1 h2 h3 h4
 unfold sw_node.f
 rw [at_some hr hl hf,etk,emk,wu64 (n:=lev) (by omega) (by omega),wu64 (n:=H) (by omega) (by omega),wi64 (n:=lev+1) (by omega) (by omega),wi64 (n:=lev - 1) (by omega) (by omega),Level_is hk T S C H K V L l hp]
 simp only [Option.bind_some]
 have hrest:∀ t,0≤t→t≤H→∃ r,(if mk=true then sw_node.l0 k T S C H K V L l h t (lev+1) else ((if lev=0 then some true else (slices_Contains_uint64_uint64.f k (if okB T S C H K V L l (lev - 1)=true then (lvlF T S C H K V L l (lev - 1)).map (·.2) else []) h).bind fun t67_=>some t67_):Option Bool).bind fun j58_=>some j58_)=some r:=by
  intro t ht0 ht
  cases mk with
  | true=>exact node_l0 hr hl h1 h2 t ht0 ht 10 k (lev+1) (by omega) (by omega) (by omega)
  | false =>
   by_cases h0:lev=0
   ·rw [if_neg (by decide),if_pos h0]; exact ⟨_,rfl⟩
   ·rw [if_neg (by decide),if_neg h0]
    have hb:(if okB T S C H K V L l (lev - 1)=true then (lvlF T S C H K V L l (lev - 1)).map (·.2) else []).length≤100:=by
     split
     ·rename_i hk2
      have:=lvl_len hk2
      rw [List.length_map]; omega
     ·simp
    obtain ⟨c,ec⟩:=contains_tot hk hb h
    rw [ec]
    exact ⟨_,rfl⟩
 have hpos:0≤rd l (cellI T S H (h % 4294967296) 4):=by
  unfold rd
  rw [List.getD_eq_getElem?_getD]
  cases e:l[(cellI T S H (h % 4294967296) 4).toNat]? with
  | none=>exact Int.le_refl _
  | some v=>exact hp v (List.mem_of_getElem? e)
 cases tk with
 | false=>exact ⟨false,rfl⟩
 | true =>
  rw [if_pos rfl]
  by_cases ha:rd l (cellI T S H (h % 4294967296) 4)≤lev
  ·rw [if_pos ha]; exact ⟨false,rfl⟩
  ·rw [if_neg ha]
   by_cases hb:rd l (cellI T S H (h % 4294967296) 4) > H
   ·rw [decide_eq_true hb]; exact ⟨false,rfl⟩
   ·rw [decide_eq_false hb]
    exact hrest _ hpos (by omega)
end
theorem sw_right_tot0 (k:Nat) (T S C H K V L:Int) (l:List Int) (lev:Int) (hfu:1000≤k) (hok:okB T S C H K V L l lev=true) (r:Bool):∀ x∈lvlF T S C H K V L l lev,∀ s:Int × Int,True→∃ r',sw_right.b0 k T S C H K V L l lev (fun _=>some r) x.1 x.2 s=some r':=by
 intro x hx s _
 obtain ⟨h1,h2,h3,h4⟩:=lvl_mem hx
 obtain ⟨hr,hl,h5,h6,hp⟩:=okB_iff.1 hok
 have hH:=hr.h
 have hf:isF C H (x.2 % 4294967296) 1=true:=isF_iff.2 ⟨by omega,h4,by omega,by omega⟩
 obtain ⟨q,eq_⟩:=node_tot hfu hok (show 0≤x.2 % 4294967296 by omega) h4
 obtain ⟨s1,s2⟩:=s
 unfold sw_right.b0
 simp only []
 rw [at_some hr hl hf,at_eq hr hl (isF_lev hr (show 0≤x.2 % 4294967296 by omega) h4 h5 h6),eq_]
 simp only [Option.bind_some]
 have hj:∃ j,(if x.1=0 then some true else some (decide (s1<rd l (cellI T S H (x.2 % 4294967296) 1))))=some j:=by split <;> exact ⟨_,rfl⟩
 obtain ⟨j,ej⟩:=hj
 rw [ej]
 simp only [Option.bind_some]
 have hk2:∃ j2,(if x.1≥C then some true else if j=true then some (!q) else some true)=some j2:=by
  split
  ·exact ⟨_,rfl⟩
  ·split <;> exact ⟨_,rfl⟩
 obtain ⟨j2,ej2⟩:=hk2
 rw [ej2]
 simp only [Option.bind_some]
 split <;> exact ⟨_,rfl⟩
set_option maxRecDepth 100000 in
set_option maxHeartbeats 4000000 in
theorem sw_right_con (k:Nat) (p0:Int) (p1:Int) (p2:Int) (p3:Int) (p4:Int) (p5:Int) (p6:Int) (A0_7:Option Addr) (c0_7:Nat) (l0_7:List Int) (a1:Int) (r0:Bool) (h:sw_right.f k p0 p1 p2 p3 p4 p5 p6 l0_7 a1=some r0) (w0:World) (Hs:List Nat):Con Tryz.prog 112 #[.agg (cfB p0 p1 p2 p3 p4 p5 p6 A0_7 l0_7.length c0_7),.I a1] w0 Hs [.f (KU A0_7 c0_7 l0_7)] (fun X=>X (.bool r0) []):=by
 refine con_enterM (c:=bodyOf Tryz.f112) (k:=9) Tryz.func112 rfl (m:=60) rfl rfl rfl ?_
 intro X hX _
 refine c_knowT (φ:=DefOK []) DefOK.nil ?_
 have H:=h
 unfold sw_right.f at H
 clear h
 refine c_seq rfl ?_
 refine r_ordb (l:=[0,1,2]) rfl (by kernel_rfl) ?_
 refine s_e rfl rfl (e_box rfl rfl rfl rfl) ?_
 intro b4_
 refine s_e rfl rfl (e_box rfl rfl rfl rfl) ?_
 intro b5_
 refine s_e rfl rfl (e_alloc rfl rfl rfl ZR4) ?_
 intro b6_
 refine sE rfl ?_
 refine r_ordb (l:=[0,1,2,3,4,5]) rfl (by kernel_rfl) ?_
 refine sV rfl (vLA [.I p0,.I p1,.I p2,.I p3,.I p4,.I p5,.I p6,.slice A0_7 l0_7.length c0_7] 2 Tryz.underlying104 SZ104 rfl) ?_
 refine sV rfl (vL 1 Tryz.underlying3 rfl) ?_
 refine sR rfl ?_
 obtain ⟨t10_,e11_,H⟩:=bind_s H
 refine s_e rfl rfl (eC [4] #[.agg (cfB p0 p1 p2 p3 p4 p5 p6 A0_7 l0_7.length c0_7),.I 0,.I (IntKind.wrap .i64 (6+a1))] Tryz.func78 (by decide) rfl (fun w ht=>sw_at_con p0 p1 p2 p3 p4 p5 p6 A0_7 c0_7 l0_7 0 (IntKind.wrap .i64 (6+a1)) t10_ e11_ w _)) ?_
 refine s_e rfl rfl (e_alloc rfl rfl rfl ZR41) ?_
 intro b12_
 refine s_e rfl rfl (e_st 0 rfl rfl SZ41 rfl rfl rfl rfl (blt_lt rfl)) ?_
 refine sE rfl ?_
 refine c_seq rfl ?_
 refine r_ordb (l:=[0,1]) rfl (by kernel_rfl) ?_
 refine sV rfl (vL 0 Tryz.underlying41 rfl) ?_
 obtain ⟨t18_,e19_,H⟩:=bind_s H
 refine s_e rfl rfl (eC [] #[.U t10_] Tryz.func76 (by decide) rfl (fun w ht=>handle_Marked_con t10_ t18_ e19_ w _)) ?_
 refine sQ ?_
 rcases Bool.eq_false_or_eq_true t18_ with h20_ | h20_
 subst h20_
 replace H:=ite_y rfl H
 refine c_cond1 rfl rfl ?_
 refine c_seq rfl ?_
 refine r_ordb (l:=[0]) rfl (by kernel_rfl) ?_
 refine s_e rfl rfl (e_st 1 rfl rfl SZ4 rfl rfl rfl rfl (blt_lt rfl)) ?_
 refine sQ ?_
 refine c_ret rfl ?_
 refine q_then_ret ?_
 have e_:=Option.some.inj H
 subst e_
 exact q_retD (Ds:=[]) 4 rfl List.nodup_nil (fun _ h=>(by cases h)) [1] rfl (by decide) (cellsB.cons cellsB.nil) (.inl rfl) rfl (vs:=[.bool false]) (.cell 0 rfl Tryz.underlying4 rfl rfl rfl .nil) (hX)
 subst h20_
 replace H:=ite_n (by decide) H
 refine c_cond0 rfl rfl ?_
 refine kQ rfl ?_
 refine c_seq rfl ?_
 refine r_ordb (l:=[0]) rfl (by kernel_rfl) ?_
 refine s_e rfl rfl (e_alloc rfl rfl rfl ZR41) ?_
 intro b22_
 refine sE rfl ?_
 refine c_seq rfl ?_
 refine r_ordb (l:=[0,1,2]) rfl (by kernel_rfl) ?_
 refine sV rfl (vLA [.I p0,.I p1,.I p2,.I p3,.I p4,.I p5,.I p6,.slice A0_7 l0_7.length c0_7] 4 Tryz.underlying104 SZ104 rfl) ?_
 refine sV rfl (vL 3 Tryz.underlying3 rfl) ?_
 refine s_e rfl rfl (eC [] #[.agg (cfB p0 p1 p2 p3 p4 p5 p6 A0_7 l0_7.length c0_7),.I a1] Tryz.func60 (by decide) rfl (fun w ht=>level_con p0 p1 p2 p3 p4 p5 p6 A0_7 l0_7.length c0_7 a1 w _)) ?_
 intro b25_ b26_
 refine sQ ?_
 refine c_block rfl ?_
 obtain ⟨n27_,H⟩:=ite_no H
 obtain ⟨n28_,H⟩:=ite_no H
 obtain ⟨κ_,hκ_,H⟩:=rng_intro H
 refine c_rangeD (N:=(lvlF p0 p1 p2 p3 p4 p5 p6 l0_7 a1).length) (S:=fun ys=>ys=(lvlF p0 p1 p2 p3 p4 p5 p6 l0_7 a1).attach) (Sp:=fun pre=>pre <+: (lvlF p0 p1 p2 p3 p4 p5 p6 l0_7 a1).attach) (fun x:{p:Int × Int // p∈(lvlF p0 p1 p2 p3 p4 p5 p6 l0_7 a1)}=>#[Value.I x.1.1,Value.U x.1.2]) (gf:=98) (lb:=[.P b25_,.P b26_]) (ps:=#[20,21]) [2,3,4] [0,1,5,6,7,8] (fun pre (s_:Int × Int)=>match s_ with | (x61_,x62_)=>(pre <+: (lvlF p0 p1 p2 p3 p4 p5 p6 l0_7 a1).attach→rng (sw_right.b0 k p0 p1 p2 p3 p4 p5 p6 l0_7 a1) ((lvlF p0 p1 p2 p3 p4 p5 p6 l0_7 a1).drop pre.length) κ_ (x61_,x62_)=some r0)) (fun pre c_ (s_:Int × Int)=>match s_ with | (x61_,x62_)=>c_ = .ret∧(pre <+: (lvlF p0 p1 p2 p3 p4 p5 p6 l0_7 a1).attach→false=r0)) (fun (x61_,x62_)=>[.b b22_ (.cells #[.U x61_] 41 (0,0)),.b b12_ (.cells #[.U x62_] 41 (0,0)),.b b6_ (.cells #[.bool false] 4 (0,0))]) (fun x=>[(8,.U x.1.2),(7,.I x.1.1),(21,.U x.1.2),(20,.I x.1.1)]) (0,t10_) rfl rfl rfl (fun _=>rfl) (by decide) Tryz.func98 rfl (by decide) rfl rfl (by decide) ?_ (fun _=>H) rfl ?_ ?_ ?_ ?_ ?_
 rintro ⟨x61_,x62_⟩ e he
 simp only [List.mem_cons,List.not_mem_nil,or_false] at he
 rcases he with rfl | rfl | rfl
 exact .inl ⟨_,_,_,rfl⟩
 exact .inl ⟨_,_,_,rfl⟩
 exact .inl ⟨_,_,_,rfl⟩
 intro w ht
 refine lvl_stops _ (by decide) b25_ b26_ _ p0 p1 p2 p3 p4 p5 p6 A0_7 c0_7 l0_7 a1 n27_ w (ht.at_ _ _ (List.mem_of_getElem? (i:=0) rfl)) (ht.at_ _ _ (List.mem_of_getElem? (i:=1) rfl)) ?_ ?_ ((ht.facts _ (List.mem_of_getElem? (i:=8) rfl)).mono ?_)
 exact tri_disj ht (i:=0) rfl (idx:=[2,3,4]) rfl (by decide)
 exact tri_disj ht (i:=1) rfl (idx:=[2,3,4]) rfl (by decide)
 exact fun x hx _=>List.mem_append_right _ (pick_ids (idx:=[2,3,4]) rfl x hx)
 rintro lv_ ⟨⟨x29_,x30_⟩,hx_⟩ a_ W_ K_ hf_ hk_
 refine assign_one (F1:=[(8,.U x30_),(7,.I x29_),(21,.U x30_),(20,.I x29_)] ++ _) (fr_params2 hf_ rfl rfl) hk_ ?_
 refine c_seq rfl ?_
 refine r_ordb (l:=[0]) rfl (by kernel_rfl) ?_
 refine sA rfl ?_
 refine sQ ?_
 refine r_ordb (l:=[0]) rfl (by kernel_rfl) ?_
 refine sA rfl ?_
 refine s_end ?_
 exact q_assigned (fun _ _ h=>h)
 rintro lv_ pre_ ⟨⟨x29_,x30_⟩,hx_⟩ ⟨x61_,x62_⟩ W_ hI_ hlen_
 clear H
 obtain ⟨κ2_,r2_,H,hk_,hr_⟩:=rng_step (sw_right_tot0 k p0 p1 p2 p3 p4 p5 p6 l0_7 a1 n28_ n27_ r0) pre_ ⟨(x29_,x30_),hx_⟩ (x61_,x62_) trivial hI_
 unfold sw_right.b0 at H
 refine c_block rfl ?_
 refine c_seq rfl ?_
 refine r_ordb (l:=[0,1,2]) rfl (by kernel_rfl) ?_
 refine sM rfl ?_
 refine s_e rfl rfl (eC [] #[.U x30_] Tryz.func30 (by decide) rfl (fun w ht=>handle_Index_con x30_ w _)) ?_
 refine sA rfl ?_
 refine sQ ?_
 obtain ⟨j96_,e97_,H⟩:=bind_s H
 refine c_join (β:=Unit) (fun _=>True) (fun _=>[(2,.P b4_),(3,.P b5_),(4,.P b6_),(5,.P b12_),(6,.P b22_),(7,.I x29_),(8,.U x30_),(9,.I (x30_ % 4294967296)),(10,.bool j96_)]) (fun _=>[.b b22_ (.cells #[.U x61_] 41 (0,0)),.b b12_ (.cells #[.U x62_] 41 (0,0)),.b b6_ (.cells #[.bool false] 4 (0,0)),.f (fun w=>w.heap[b25_]?=some (.cells (cfB p0 p1 p2 p3 p4 p5 p6 A0_7 l0_7.length c0_7) 104 (0,0))),.f (fun w=>w.heap[b26_]?=some (.cells #[.I a1] 3 (0,0))),.f (fun w=>w.heap[b5_]?=some (.cells #[.I a1] 3 (0,0))),.f (fun w=>w.heap[b4_]?=some (.cells (cfB p0 p1 p2 p3 p4 p5 p6 A0_7 l0_7.length c0_7) 104 (0,0))),.f (DefOK []),.f (KU A0_7 c0_7 l0_7)]) rfl (fun _ _=>?_) (fun J_=>?_)
 refine c_seq rfl ?_
 obtain ⟨j117_,e118_,H⟩:=bind_s H
 refine c_join (β:=Unit) (fun _=>True) (fun _=>[(2,.P b4_),(3,.P b5_),(4,.P b6_),(5,.P b12_),(6,.P b22_),(9,.I (x30_ % 4294967296)),(48,.bool j117_)]) (fun _=>[.b b22_ (.cells #[.U x61_] 41 (0,0)),.b b12_ (.cells #[.U x62_] 41 (0,0)),.b b6_ (.cells #[.bool false] 4 (0,0)),.f (fun w=>w.heap[b25_]?=some (.cells (cfB p0 p1 p2 p3 p4 p5 p6 A0_7 l0_7.length c0_7) 104 (0,0))),.f (fun w=>w.heap[b26_]?=some (.cells #[.I a1] 3 (0,0))),.f (fun w=>w.heap[b5_]?=some (.cells #[.I a1] 3 (0,0))),.f (fun w=>w.heap[b4_]?=some (.cells (cfB p0 p1 p2 p3 p4 p5 p6 A0_7 l0_7.length c0_7) 104 (0,0))),.f (DefOK []),.f (KU A0_7 c0_7 l0_7)]) rfl (fun _ _=>?_) (fun J_=>?_)
 rcases Bool.eq_false_or_eq_true j117_ with h119_ | h119_
 subst h119_
 replace H:=ite_y rfl H
 refine c_cond1 rfl rfl ?_
 refine c_seq rfl ?_
 refine r_ordb (l:=[0]) rfl (by kernel_rfl) ?_
 refine s_e rfl rfl (e_st 2 rfl rfl SZ4 rfl rfl rfl rfl (blt_lt rfl)) ?_
 refine sQ ?_
 refine c_ret rfl ?_
 refine q_then_ret ?_
 refine q_block_ret ?_
 exact q_round_ret (x61_,x62_) [0,1,2] rfl rfl (by decide) ⟨rfl,fun h=>(Option.some.inj H).trans (hr_ h)⟩
 subst h119_
 replace H:=ite_n (by decide) H
 refine c_cond0 rfl rfl ?_
 refine kQ rfl ?_
 obtain ⟨t120_,e121_,H⟩:=bind_s H
 obtain ⟨t122_,e123_,H⟩:=bind_s H
 refine r_any [.b b6_ (.cells #[.bool false] 4 (0,0)),.f (fun w=>w.heap[b25_]?=some (.cells (cfB p0 p1 p2 p3 p4 p5 p6 A0_7 l0_7.length c0_7) 104 (0,0))),.f (fun w=>w.heap[b26_]?=some (.cells #[.I a1] 3 (0,0))),.f (fun w=>w.heap[b5_]?=some (.cells #[.I a1] 3 (0,0))),.f (fun w=>w.heap[b4_]?=some (.cells (cfB p0 p1 p2 p3 p4 p5 p6 A0_7 l0_7.length c0_7) 104 (0,0))),.f (DefOK []),.f (KU A0_7 c0_7 l0_7)] (by kernel_rfl) rfl (by kernel_rfl) (mem_pick (idx:=[2,3,4,5,6,7,8]) rfl) ?_
 refine aV 0 rfl (by kernel_rfl) (v_ldAr [.I p0,.I p1,.I p2,.I p3,.I p4,.I p5,.I p6,.slice A0_7 l0_7.length c0_7] 4 rfl Tryz.underlying104 rfl SZ104 rfl rfl rfl rfl) ?_
 refine aV 1 rfl (by kernel_rfl) (vM rfl) ?_
 refine aV 3 rfl (by kernel_rfl) (v_ldAr [.I p0,.I p1,.I p2,.I p3,.I p4,.I p5,.I p6,.slice A0_7 l0_7.length c0_7] 4 rfl Tryz.underlying104 rfl SZ104 rfl rfl rfl rfl) ?_
 refine aV 4 rfl (by kernel_rfl) (vM rfl) ?_
 refine aV 5 rfl (by kernel_rfl) (v_ldr 3 rfl Tryz.underlying3 rfl rfl rfl rfl) ?_
 refine aV 6 rfl (by kernel_rfl) (vR rfl) ?_
 refine a_1 (i:=2) (by kernel_rfl) ?_
 refine i_e rfl rfl (eC [8] #[.agg (cfB p0 p1 p2 p3 p4 p5 p6 A0_7 l0_7.length c0_7),.I (x30_ % 4294967296),.I 1] Tryz.func78 (by decide) rfl (fun w ht=>sw_at_con p0 p1 p2 p3 p4 p5 p6 A0_7 c0_7 l0_7 (x30_ % 4294967296) 1 t120_ e121_ w _)) ?_
 refine ⟨(mem_pick (idx:=[2,3,4,5,6,7,8]) rfl),?_⟩
 refine a_1 (i:=7) (by kernel_rfl) ?_
 refine i_e rfl rfl (eC [8] #[.agg (cfB p0 p1 p2 p3 p4 p5 p6 A0_7 l0_7.length c0_7),.I (x30_ % 4294967296),.I (IntKind.wrap .i64 (6+a1))] Tryz.func78 (by decide) rfl (fun w ht=>sw_at_con p0 p1 p2 p3 p4 p5 p6 A0_7 c0_7 l0_7 (x30_ % 4294967296) (IntKind.wrap .i64 (6+a1)) t122_ e123_ w _)) ?_
 refine ⟨(mem_pick (idx:=[2,3,4,5,6,7,8]) rfl),?_⟩
 refine a_1 (i:=8) (by kernel_rfl) ?_
 refine i_e rfl rfl (e_st 0 rfl rfl SZ41 rfl rfl rfl rfl (blt_lt rfl)) ?_
 refine ⟨(mem_pick (idx:=[2,3,4,5,6,7,8]) rfl),?_⟩
 refine a_1 (i:=9) (by kernel_rfl) ?_
 refine i_e rfl rfl (e_st 1 rfl rfl SZ41 rfl rfl rfl rfl (blt_lt rfl)) ?_
 refine ⟨(mem_pick (idx:=[2,3,4,5,6,7,8]) rfl),?_⟩
 refine a_end (by kernel_rfl) ?_
 refine q_block ?_
 exact q_round (t120_,t122_) [0,1,2] rfl rfl (by decide) (hk_ _ H)
 clear H
 have H:=e118_
 clear e118_
 refine r_ordb (l:=[0,1,2,3,4,5,6,7,8,9,10,11,12,13,14,15]) rfl (by kernel_rfl) ?_
 refine sM rfl ?_
 refine sV rfl (vF Tryz.underlying104 SZ23 rfl) ?_
 refine sV rfl (vF Tryz.underlying23 SZ3 rfl) ?_
 refine sV rfl (v_ldr 6 rfl Tryz.underlying3 rfl rfl rfl rfl) ?_
 refine sR rfl ?_
 refine sM rfl ?_
 rcases Bool.eq_false_or_eq_true (decide ((x29_:Int)≥p2)) with h124_ | h124_
 replace H:=ite_y (dec_t h124_) H
 refine s_splitv (d:=38) (t:=decide ((x29_:Int)≥p2)) rfl (fun _=>?_) (fun h125_=>absurd (h125_.symm.trans h124_) (by decide))
 refine sN rfl ?_
 refine sN rfl ?_
 refine sP rfl ?_
 refine sM rfl ?_
 refine sN rfl ?_
 refine sN rfl ?_
 refine sN rfl ?_
 refine sN rfl ?_
 refine sN rfl ?_
 refine sP rfl ?_
 refine s_end ?_
 have hq_0:=Option.some.inj H
 subst hq_0
 exact q_seq (c_frame (subF_spec (by exact ⟨rfl,rfl,rfl,rfl,rfl,rfl,rfl,trivial⟩)) (c_take [0,1,2,3,4,5,6,7,8] rfl (by decide) (J_ () trivial)))
 replace H:=ite_n (dec_f h124_) H
 refine s_splitv (d:=38) (t:=decide ((x29_:Int)≥p2)) rfl (fun h126_=>absurd (h126_.symm.trans h124_) (by decide)) (fun _=>?_)
 refine sG rfl (vM rfl) ?_
 refine sG rfl (v_not rfl rfl) ?_
 refine sP rfl ?_
 refine sM rfl ?_
 rcases Bool.eq_false_or_eq_true (!j96_) with h127_ | h127_
 replace H:=ite_n (not_t (bnot_t h127_)) H
 refine s_splitv (d:=42) (t:=!j96_) rfl (fun _=>?_) (fun h128_=>absurd (h128_.symm.trans h127_) (by decide))
 refine sN rfl ?_
 refine sN rfl ?_
 refine sN rfl ?_
 refine sN rfl ?_
 refine sN rfl ?_
 refine sP rfl ?_
 refine s_end ?_
 have hq_0:=Option.some.inj H
 subst hq_0
 exact q_seq (c_frame (subF_spec (by exact ⟨rfl,rfl,rfl,rfl,rfl,rfl,rfl,trivial⟩)) (c_take [0,1,2,3,4,5,6,7,8] rfl (by decide) (J_ () trivial)))
 replace H:=ite_y (bnot_f h127_) H
 refine s_splitv (d:=42) (t:=!j96_) rfl (fun h129_=>absurd (h129_.symm.trans h127_) (by decide)) (fun _=>?_)
 refine sG rfl (v_ldAr [.I p0,.I p1,.I p2,.I p3,.I p4,.I p5,.I p6,.slice A0_7 l0_7.length c0_7] 6 rfl Tryz.underlying104 rfl SZ104 rfl rfl rfl rfl) ?_
 refine sG rfl (vM rfl) ?_
 refine sG rfl (v_ldr 5 rfl Tryz.underlying3 rfl rfl rfl rfl) ?_
 obtain ⟨t130_,e131_,H⟩:=bind_s H
 refine s_eg rfl rfl (eC [8] #[.agg (cfB p0 p1 p2 p3 p4 p5 p6 A0_7 l0_7.length c0_7),.U x30_,.I a1] Tryz.func128 (by decide) rfl (fun w ht=>sw_node_con _ p0 p1 p2 p3 p4 p5 p6 A0_7 c0_7 l0_7 x30_ a1 t130_ e131_ w _)) ?_
 refine sG rfl (v_not rfl rfl) ?_
 refine sP rfl ?_
 refine s_end ?_
 have hq_0:=Option.some.inj H
 subst hq_0
 exact q_seq (c_frame (subF_spec (by exact ⟨rfl,rfl,rfl,rfl,rfl,rfl,rfl,trivial⟩)) (c_take [0,1,2,3,4,5,6,7,8] rfl (by decide) (J_ () trivial)))
 clear H
 have H:=e97_
 clear e97_
 rcases Bool.eq_false_or_eq_true ((x29_:Int) == 0) with h132_ | h132_
 replace H:=ite_y (ibeq_t h132_) H
 refine r_any [.b b22_ (.cells #[.U x61_] 41 (0,0)),.b b12_ (.cells #[.U x62_] 41 (0,0)),.b b6_ (.cells #[.bool false] 4 (0,0)),.f (fun w=>w.heap[b25_]?=some (.cells (cfB p0 p1 p2 p3 p4 p5 p6 A0_7 l0_7.length c0_7) 104 (0,0))),.f (fun w=>w.heap[b26_]?=some (.cells #[.I a1] 3 (0,0))),.f (fun w=>w.heap[b5_]?=some (.cells #[.I a1] 3 (0,0))),.f (fun w=>w.heap[b4_]?=some (.cells (cfB p0 p1 p2 p3 p4 p5 p6 A0_7 l0_7.length c0_7) 104 (0,0))),.f (DefOK []),.f (KU A0_7 c0_7 l0_7)] (by kernel_rfl) rfl (by kernel_rfl) (mem_pick (idx:=[0,1,2,3,4,5,6,7,8]) rfl) ?_
 refine aV 0 rfl (by kernel_rfl) (vM rfl) ?_
 refine aV 1 rfl (by kernel_rfl) (OpV.cast (v := .bool true) (vR rfl) (congrArg Value.bool h132_)) ?_
 refine aV 2 rfl (by kernel_rfl) (vM rfl) ?_
 refine aN 3 rfl (by kernel_rfl) ?_
 refine aN 4 rfl (by kernel_rfl) ?_
 refine aN 5 rfl (by kernel_rfl) ?_
 refine aN 6 rfl (by kernel_rfl) ?_
 refine aN 7 rfl (by kernel_rfl) ?_
 refine aV 8 rfl (by kernel_rfl) (vP rfl) ?_
 refine aV 9 rfl (by kernel_rfl) (vA rfl) ?_
 refine a_end (by kernel_rfl) ?_
 have hq_0:=Option.some.inj H
 subst hq_0
 exact q_seq (c_frame (subF_spec (by exact ⟨rfl,rfl,rfl,rfl,rfl,rfl,rfl,rfl,rfl,trivial⟩)) (c_take [0,1,2,3,4,5,6,7,8] rfl (by decide) (J_ () trivial)))
 replace H:=ite_n (ibeq_f h132_) H
 obtain ⟨t133_,e134_,H⟩:=bind_s H
 refine r_any [.b b22_ (.cells #[.U x61_] 41 (0,0)),.b b12_ (.cells #[.U x62_] 41 (0,0)),.b b6_ (.cells #[.bool false] 4 (0,0)),.f (fun w=>w.heap[b25_]?=some (.cells (cfB p0 p1 p2 p3 p4 p5 p6 A0_7 l0_7.length c0_7) 104 (0,0))),.f (fun w=>w.heap[b26_]?=some (.cells #[.I a1] 3 (0,0))),.f (fun w=>w.heap[b5_]?=some (.cells #[.I a1] 3 (0,0))),.f (fun w=>w.heap[b4_]?=some (.cells (cfB p0 p1 p2 p3 p4 p5 p6 A0_7 l0_7.length c0_7) 104 (0,0))),.f (DefOK []),.f (KU A0_7 c0_7 l0_7)] (by kernel_rfl) rfl (by kernel_rfl) (mem_pick (idx:=[0,1,2,3,4,5,6,7,8]) rfl) ?_
 refine aV 0 rfl (by kernel_rfl) (vM rfl) ?_
 refine aV 1 rfl (by kernel_rfl) (OpV.cast (v := .bool false) (vR rfl) (congrArg Value.bool h132_)) ?_
 refine aV 2 rfl (by kernel_rfl) (vM rfl) ?_
 refine aV 3 rfl (by kernel_rfl) (vL 0 Tryz.underlying41 rfl) ?_
 refine aV 4 rfl (by kernel_rfl) (v_ldAr [.I p0,.I p1,.I p2,.I p3,.I p4,.I p5,.I p6,.slice A0_7 l0_7.length c0_7] 6 rfl Tryz.underlying104 rfl SZ104 rfl rfl rfl rfl) ?_
 refine aV 5 rfl (by kernel_rfl) (vM rfl) ?_
 refine a_1 (i:=6) (by kernel_rfl) ?_
 refine i_e rfl rfl (eC [8] #[.agg (cfB p0 p1 p2 p3 p4 p5 p6 A0_7 l0_7.length c0_7),.I (x30_ % 4294967296),.I 1] Tryz.func78 (by decide) rfl (fun w ht=>sw_at_con p0 p1 p2 p3 p4 p5 p6 A0_7 c0_7 l0_7 (x30_ % 4294967296) 1 t133_ e134_ w _)) ?_
 refine ⟨(mem_pick (idx:=[0,1,2,3,4,5,6,7,8]) rfl),?_⟩
 refine aV 7 rfl (by kernel_rfl) (vR rfl) ?_
 refine aV 8 rfl (by kernel_rfl) (vP rfl) ?_
 refine aV 9 rfl (by kernel_rfl) (vA rfl) ?_
 refine a_end (by kernel_rfl) ?_
 have hq_0:=Option.some.inj H
 subst hq_0
 exact q_seq (c_frame (subF_spec (by exact ⟨rfl,rfl,rfl,rfl,rfl,rfl,rfl,rfl,rfl,trivial⟩)) (c_take [0,1,2,3,4,5,6,7,8] rfl (by decide) (J_ () trivial)))
 rintro D135_ ys_ ⟨x61_,x62_⟩ hD_ hS_ hI_
 subst hS_
 have H:=(hκ_ _).symm.trans (rng_done hI_)
 obtain ⟨hndD135_,hgeD135_⟩:=fresh_D 7 rfl hD_ List.nodup_nil (fun _ h=>(by cases h))
 refine q_give [0,1,2,3,4,5,6,7,8,9] rfl (by decide) (by simp [ids,Ent.id?]) (fun w h=>h) ?_
 refine q_both 0 8 rfl rfl ?_
 refine q_weak 0 rfl (fun w h=>DefOK.cons h) ?_
 refine q_block ?_
 refine q_seq ?_
 refine c_seq rfl ?_
 refine r_ordb (l:=[0,1,2,3]) rfl (by kernel_rfl) ?_
 refine sV rfl (vL 4 Tryz.underlying41 rfl) ?_
 obtain ⟨t140_,e141_,H⟩:=bind_s H
 refine s_e rfl rfl (eC [] #[.U x62_] Tryz.func115 (by decide) rfl (fun w ht=>handle_Valid_con x62_ t140_ e141_ w _)) ?_
 refine sV rfl (v_not rfl rfl) ?_
 refine s_e rfl rfl (e_st 5 rfl rfl SZ4 rfl rfl rfl rfl (blt_lt rfl)) ?_
 refine sQ ?_
 refine c_ret rfl ?_
 have e_:=Option.some.inj H
 subst e_
 exact q_retD (Ds:=(D135_ :: [])) 0 rfl hndD135_ hgeD135_ [5] rfl (by decide) (cellsB.cons cellsB.nil) (.inl rfl) rfl (vs:=[.bool (!t140_)]) (.cell 0 rfl Tryz.underlying4 rfl rfl rfl .nil) (hX)
 rintro D135_ c_ pre_ ⟨x61_,x62_⟩ hD_ hS_ hI_
 obtain ⟨rfl,hres_⟩:=hI_
 have hres_:=hres_ hS_
 refine c_ret rfl ?_
 obtain ⟨hndD135_,hgeD135_⟩:=fresh_D 7 rfl hD_ List.nodup_nil (fun _ h=>(by cases h))
 refine q_give [0,1,2,3,4,5,6,7,8,9] rfl (by decide) (by simp [ids,Ent.id?]) (fun w h=>h) ?_
 refine q_both 0 8 rfl rfl ?_
 refine q_weak 0 rfl (fun w h=>DefOK.cons h) ?_
 refine q_block_ret ?_
 refine q_then_ret ?_
 subst hres_
 exact q_retD (Ds:=(D135_ :: [])) 0 rfl hndD135_ hgeD135_ [5] rfl (by decide) (cellsB.cons cellsB.nil) (.inl rfl) rfl (vs:=[.bool false]) (.cell 0 rfl Tryz.underlying4 rfl rfl rfl .nil) (hX)
end Go.Eng
namespace Go.Eng
open Go.Proofs Go.RowKit Go.Proofs.YtgbcnokeaaabfaaGreatW.PrintWords
set_option linter.unusedVariables false
set_option linter.unusedSimpArgs false
def shape_Right.l0:Nat→Int→Int→Int→Int→Int→Int→Int→List Int→Int→Option Bool
 | 0,_,_,_,_,_,_,_,_,_=>none
 | k+1,p0,p1,p2,p3,p4,p5,p6,l1,x29_=>(if (x29_:Int)<p3 then (sw_right.f k p0 p1 p2 p3 p4 p5 p6 l1 x29_).bind fun t51_=>(if t51_=true then shape_Right.l0 k p0 p1 p2 p3 p4 p5 p6 l1 (IntKind.wrap .i64 (x29_+1)) else some false) else some true)
def shape_Right.f (k:Nat) (p0:Int) (p1:Int) (p2:Int) (p3:Int) (p4:Int) (p5:Int) (p6:Int) (l1:List Int):Option Bool:=((sw_whole.f p0 p1 p2 p3 p4 p5 p6 l1).bind fun t57_=>(if t57_=true then (sw_taken.f p0 p1 p2 p3 p4 p5 p6 l1 9223372036854775808).bind fun t60_=>some (!t60_) else some true):Option Bool).bind fun j18_=>(if j18_=true then some false else shape_Right.l0 k p0 p1 p2 p3 p4 p5 p6 l1 0)
set_option maxRecDepth 100000 in
set_option maxHeartbeats 4000000 in
theorem shape_Right_con (k:Nat) (p0:Int) (p1:Int) (p2:Int) (p3:Int) (p4:Int) (p5:Int) (p6:Int) (A1:Option Addr) (c1:Nat) (l1:List Int) (r0:Bool) (h:shape_Right.f k p0 p1 p2 p3 p4 p5 p6 l1=some r0) (w0:World) (Hs:List Nat):Con Tryz.prog 72 #[.agg (cfA p0 p1 p2 p3 p4 p5 p6),.slice A1 l1.length c1] w0 Hs [.f (KU A1 c1 l1)] (fun X=>X (.bool r0) []):=by
 refine con_enter (c:=bodyOf Tryz.f72) Tryz.func72 rfl (m:=29) rfl rfl rfl ?_
 intro X hX _
 have H:=h
 unfold shape_Right.f at H
 clear h
 refine c_seq rfl ?_
 refine r_ordb (l:=[0,1]) rfl (by kernel_rfl) ?_
 refine s_e rfl rfl (e_box rfl rfl rfl rfl) ?_
 intro b2_
 refine sA rfl ?_
 refine sE rfl ?_
 refine r_ordb (l:=[0,1,2,3,4]) rfl (by kernel_rfl) ?_
 refine sV rfl (vLA (lfA p0 p1 p2 p3 p4 p5 p6) 0 Tryz.underlying23 SZ23 rfl) ?_
 refine sM rfl ?_
 refine sV rfl (v_build (places:=#[(0,7),(7,1)]) (cfB p0 p1 p2 p3 p4 p5 p6 A1 l1.length c1) rfl ZR104 Tryz.underlying104 (by kernel_rfl) rfl (by kernel_rfl)) ?_
 refine s_e rfl rfl (e_alloc rfl rfl rfl ZR104) ?_
 intro b4_
 refine s_e rfl rfl (e_stA 0 rfl rfl SZ104 rfl rfl rfl rfl rfl rfl) ?_
 refine sE rfl ?_
 obtain ⟨j18_,e19_,H⟩:=bind_s H
 refine c_join (β:=Unit) (fun _=>True) (fun _=>[(2,.P b2_),(4,.bool false),(5,.P b4_),(18,.bool j18_)]) (fun _=>[.b b4_ (.cells (cfB p0 p1 p2 p3 p4 p5 p6 A1 l1.length c1) 104 (0,0)),.b b2_ (.cells (cfA p0 p1 p2 p3 p4 p5 p6) 23 (0,0)),.f (KU A1 c1 l1)]) rfl (fun _ _=>?_) (fun J_=>?_)
 rcases Bool.eq_false_or_eq_true j18_ with h20_ | h20_
 subst h20_
 replace H:=ite_y rfl H
 refine c_cond1 rfl rfl ?_
 refine c_seq rfl ?_
 refine r_ordb (l:=[0]) rfl (by kernel_rfl) ?_
 refine sA rfl ?_
 refine sQ ?_
 refine c_ret rfl ?_
 refine q_then_ret ?_
 have e_:=Option.some.inj H
 subst e_
 exact q_ret (vs:=[.bool false]) rfl (.tmp rfl .nil) [] rfl (by decide) (hX)
 subst h20_
 replace H:=ite_n (by decide) H
 refine c_cond0 rfl rfl ?_
 refine kQ rfl ?_
 refine c_seq rfl ?_
 refine c_seq rfl ?_
 refine r_ordb (l:=[0,1,2]) rfl (by kernel_rfl) ?_
 refine sV rfl (vF Tryz.underlying23 SZ3 rfl) ?_
 refine sV rfl (vL 1 Tryz.underlying3 rfl) ?_
 refine sM rfl ?_
 refine sQ ?_
 refine c_block rfl ?_
 refine c_loop (σ:=Nat × Int) (fun (k,x29_)=>shape_Right.l0 k p0 p1 p2 p3 p4 p5 p6 l1 x29_=some r0) (fun (k,x29_)=>k) (fun (k,x29_)=>[(4,.bool false),(5,.P b4_),(20,.I p3),(21,.I x29_)]) (fun (k,x29_)=>[.b b4_ (.cells (cfB p0 p1 p2 p3 p4 p5 p6 A1 l1.length c1) 104 (0,0)),.b b2_ (.cells (cfA p0 p1 p2 p3 p4 p5 p6) 23 (0,0)),.f (KU A1 c1 l1)]) (k,0) [0,1,2] rfl H (subF_spec ⟨rfl,rfl,rfl,rfl,trivial⟩) rfl (by decide) ?_
 rintro ⟨k0_,x29_⟩ hs38_
 clear H
 have H:shape_Right.l0 k0_ p0 p1 p2 p3 p4 p5 p6 l1 x29_=some r0:=hs38_
 try clear hs38_
 rcases k0_ with _ | k0_
 exact none_no (show none=_ from H)
 unfold shape_Right.l0 at H
 have hko_0:k0_≤k0_:=Nat.le_refl _
 refine c_seq rfl ?_
 refine r_ordb (l:=[0]) rfl (by kernel_rfl) ?_
 refine sR rfl ?_
 refine sE rfl ?_
 rcases Bool.eq_false_or_eq_true (decide ((x29_:Int)<p3)) with h42_ | h42_
 replace H:=ite_y (dec_t h42_) H
 refine cT h42_ rfl ?_
 refine kQ rfl ?_
 refine c_seq rfl ?_
 refine c_block rfl ?_
 refine c_seq rfl ?_
 refine r_ordb (l:=[0,1]) rfl (by kernel_rfl) ?_
 refine sM rfl ?_
 refine sA rfl ?_
 refine sE rfl ?_
 refine r_ordb (l:=[0,1,2,3]) rfl (by kernel_rfl) ?_
 refine sV rfl (vLA [.I p0,.I p1,.I p2,.I p3,.I p4,.I p5,.I p6,.slice A1 l1.length c1] 0 Tryz.underlying104 SZ104 rfl) ?_
 refine sM rfl ?_
 obtain ⟨t51_,e52_,H⟩:=bind_s H
 refine s_e rfl rfl (eC [2] #[.agg (cfB p0 p1 p2 p3 p4 p5 p6 A1 l1.length c1),.I x29_] Tryz.func112 (by decide) rfl (fun w ht=>sw_right_con _ p0 p1 p2 p3 p4 p5 p6 A1 c1 l1 x29_ t51_ e52_ w _)) ?_
 refine sV rfl (v_not rfl rfl) ?_
 refine sQ ?_
 rcases Bool.eq_false_or_eq_true (!t51_) with h53_ | h53_
 replace H:=ite_n (not_t (bnot_t h53_)) H
 refine cT h53_ rfl ?_
 refine c_seq rfl ?_
 refine r_ordb (l:=[0]) rfl (by kernel_rfl) ?_
 refine sA rfl ?_
 refine sQ ?_
 refine c_ret rfl ?_
 refine q_block_ret ?_
 refine q_then_ret ?_
 refine q_then_ret ?_
 refine q_block_ret ?_
 refine q_then_ret ?_
 have e_:=Option.some.inj H
 subst e_
 exact q_ret (vs:=[.bool false]) rfl (.tmp rfl .nil) [] rfl (by decide) (hX)
 replace H:=ite_y (bnot_f h53_) H
 refine cF h53_ rfl ?_
 refine c_skip rfl ?_
 refine q_block ?_
 refine q_seq ?_
 refine r_ordb (l:=[0,1]) rfl (by kernel_rfl) ?_
 refine sR rfl ?_
 refine sM rfl ?_
 refine s_end ?_
 exact q_again (k0_,IntKind.wrap .i64 (x29_+1)) [0,1,2] H (Nat.lt_succ_of_le hko_0) (subF_spec ⟨rfl,rfl,rfl,rfl,trivial⟩) rfl (by decide)
 replace H:=ite_n (dec_f h42_) H
 refine cF h42_ rfl ?_
 refine c_exit (i:=0) rfl rfl ?_
 refine q_then_exit ?_
 refine q_then_exit ?_
 refine q_block_here rfl ?_
 refine q_seq ?_
 refine c_seq rfl ?_
 refine r_ordb (l:=[0]) rfl (by kernel_rfl) ?_
 refine sA rfl ?_
 refine sQ ?_
 refine c_ret rfl ?_
 have e_:=Option.some.inj H
 subst e_
 exact q_ret (vs:=[.bool true]) rfl (.tmp rfl .nil) [] rfl (by decide) (hX)
 clear H
 have H:=e19_
 clear e19_
 obtain ⟨t57_,e58_,H⟩:=bind_s H
 rcases Bool.eq_false_or_eq_true (!t57_) with h59_ | h59_
 replace H:=ite_n (not_t (bnot_t h59_)) H
 refine r_any [.b b4_ (.cells (cfB p0 p1 p2 p3 p4 p5 p6 A1 l1.length c1) 104 (0,0)),.b b2_ (.cells (cfA p0 p1 p2 p3 p4 p5 p6) 23 (0,0)),.f (KU A1 c1 l1)] (by kernel_rfl) rfl (by kernel_rfl) (mem_pick (idx:=[0,1,2]) rfl) ?_
 refine aV 0 rfl (by kernel_rfl) (vLA [.I p0,.I p1,.I p2,.I p3,.I p4,.I p5,.I p6,.slice A1 l1.length c1] 0 Tryz.underlying104 SZ104 rfl) ?_
 refine a_1 (i:=1) (by kernel_rfl) ?_
 refine i_e rfl rfl (eC [2] #[.agg (cfB p0 p1 p2 p3 p4 p5 p6 A1 l1.length c1)] Tryz.func59 (by decide) rfl (fun w ht=>sw_whole_con p0 p1 p2 p3 p4 p5 p6 A1 c1 l1 t57_ e58_ w _)) ?_
 refine ⟨(mem_pick (idx:=[0,1,2]) rfl),?_⟩
 refine aV 2 rfl (by kernel_rfl) (OpV.cast (v := .bool true) (v_not rfl rfl) (congrArg Value.bool h59_)) ?_
 refine aV 3 rfl (by kernel_rfl) (vM rfl) ?_
 refine aN 4 rfl (by kernel_rfl) ?_
 refine aN 5 rfl (by kernel_rfl) ?_
 refine aN 6 rfl (by kernel_rfl) ?_
 refine aN 7 rfl (by kernel_rfl) ?_
 refine aV 8 rfl (by kernel_rfl) (vP rfl) ?_
 refine a_end (by kernel_rfl) ?_
 have hq_0:=Option.some.inj H
 subst hq_0
 exact q_seq (c_frame (subF_spec (by exact ⟨rfl,rfl,rfl,rfl,trivial⟩)) (c_take [0,1,2] rfl (by decide) (J_ () trivial)))
 replace H:=ite_y (bnot_f h59_) H
 obtain ⟨t60_,e61_,H⟩:=bind_s H
 refine r_any [.b b4_ (.cells (cfB p0 p1 p2 p3 p4 p5 p6 A1 l1.length c1) 104 (0,0)),.b b2_ (.cells (cfA p0 p1 p2 p3 p4 p5 p6) 23 (0,0)),.f (KU A1 c1 l1)] (by kernel_rfl) rfl (by kernel_rfl) (mem_pick (idx:=[0,1,2]) rfl) ?_
 refine aV 0 rfl (by kernel_rfl) (vLA [.I p0,.I p1,.I p2,.I p3,.I p4,.I p5,.I p6,.slice A1 l1.length c1] 0 Tryz.underlying104 SZ104 rfl) ?_
 refine a_1 (i:=1) (by kernel_rfl) ?_
 refine i_e rfl rfl (eC [2] #[.agg (cfB p0 p1 p2 p3 p4 p5 p6 A1 l1.length c1)] Tryz.func59 (by decide) rfl (fun w ht=>sw_whole_con p0 p1 p2 p3 p4 p5 p6 A1 c1 l1 t57_ e58_ w _)) ?_
 refine ⟨(mem_pick (idx:=[0,1,2]) rfl),?_⟩
 refine aV 2 rfl (by kernel_rfl) (OpV.cast (v := .bool false) (v_not rfl rfl) (congrArg Value.bool h59_)) ?_
 refine aV 3 rfl (by kernel_rfl) (vM rfl) ?_
 refine aV 4 rfl (by kernel_rfl) (vLA [.I p0,.I p1,.I p2,.I p3,.I p4,.I p5,.I p6,.slice A1 l1.length c1] 0 Tryz.underlying104 SZ104 rfl) ?_
 refine a_1 (i:=5) (by kernel_rfl) ?_
 refine i_e rfl rfl (eC [] #[] Tryz.func111 (by decide) rfl (fun w ht=>plan_Head_con w _)) ?_
 refine ⟨(mem_pick (idx:=[0,1,2]) rfl),?_⟩
 refine a_1 (i:=6) (by kernel_rfl) ?_
 refine i_e rfl rfl (eC [2] #[.agg (cfB p0 p1 p2 p3 p4 p5 p6 A1 l1.length c1),.U 9223372036854775808] Tryz.func77 (by decide) rfl (fun w ht=>sw_taken_con p0 p1 p2 p3 p4 p5 p6 A1 c1 l1 9223372036854775808 t60_ e61_ w _)) ?_
 refine ⟨(mem_pick (idx:=[0,1,2]) rfl),?_⟩
 refine aV 7 rfl (by kernel_rfl) (v_not rfl rfl) ?_
 refine aV 8 rfl (by kernel_rfl) (vP rfl) ?_
 refine a_end (by kernel_rfl) ?_
 have hq_0:=Option.some.inj H
 subst hq_0
 exact q_seq (c_frame (subF_spec (by exact ⟨rfl,rfl,rfl,rfl,trivial⟩)) (c_take [0,1,2] rfl (by decide) (J_ () trivial)))
def sw_settled.l0:Nat→Int→Int→Int→Int→Int→Int→Int→List Int→Int→Int→Int→Option Bool
 | 0,_,_,_,_,_,_,_,_,_,_,_=>none
 | k+1,p0,p1,p2,p3,p4,p5,p6,l0_7,a1,t25_,x42_=>(if (x42_:Int)<(IntKind.wrap .i64 t25_) then ((sw_marked.f p0 p1 p2 p3 p4 p5 p6 l0_7 a1 x42_).bind fun t90_=>(if t90_=true then some (true,true,true) else (shape_Level.f k p0 p1 p2 p3 p4 p5 p6 l0_7 x42_).bind fun t93_=>(slices_Contains_uint64_uint64.f k t93_ a1).bind fun t97_=>some (false,false,!t97_)):Option (Bool × Bool × Bool)).bind fun (j85_,j86_,j87_)=>(if j87_=true then some false else sw_settled.l0 k p0 p1 p2 p3 p4 p5 p6 l0_7 a1 t25_ (IntKind.wrap .i64 (x42_+1))) else some true)
def sw_settled.f (k:Nat) (p0:Int) (p1:Int) (p2:Int) (p3:Int) (p4:Int) (p5:Int) (p6:Int) (l0_7:List Int) (a1:Int):Option Bool:=((sw_at.f p0 p1 p2 p3 p4 p5 p6 l0_7 (a1 % 4294967296) 2).bind fun t100_=>(slot_Dead.f t100_).bind fun t102_=>(if t102_=true then some true else (sw_at.f p0 p1 p2 p3 p4 p5 p6 l0_7 (a1 % 4294967296) 5).bind fun t105_=>some ((t105_:Int) != 1)):Option Bool).bind fun j20_=>(if j20_=true then some false else (sw_at.f p0 p1 p2 p3 p4 p5 p6 l0_7 (a1 % 4294967296) 4).bind fun t25_=>sw_settled.l0 k p0 p1 p2 p3 p4 p5 p6 l0_7 a1 t25_ 0)
set_option maxRecDepth 100000 in
set_option maxHeartbeats 4000000 in
theorem sw_settled_con (k:Nat) (p0:Int) (p1:Int) (p2:Int) (p3:Int) (p4:Int) (p5:Int) (p6:Int) (A0_7:Option Addr) (c0_7:Nat) (l0_7:List Int) (a1:Int) (r0:Bool) (h:sw_settled.f k p0 p1 p2 p3 p4 p5 p6 l0_7 a1=some r0) (w0:World) (Hs:List Nat):Con Tryz.prog 74 #[.agg (cfB p0 p1 p2 p3 p4 p5 p6 A0_7 l0_7.length c0_7),.U a1] w0 Hs [.f (KU A0_7 c0_7 l0_7)] (fun X=>X (.bool r0) []):=by
 refine con_enter (c:=bodyOf Tryz.f74) Tryz.func74 rfl (m:=42) rfl rfl rfl ?_
 intro X hX _
 have H:=h
 unfold sw_settled.f at H
 clear h
 refine c_seq rfl ?_
 refine r_ordb (l:=[0,1]) rfl (by kernel_rfl) ?_
 refine s_e rfl rfl (e_box rfl rfl rfl rfl) ?_
 intro b2_
 refine sA rfl ?_
 refine sE rfl ?_
 refine r_ordb (l:=[0,1,2]) rfl (by kernel_rfl) ?_
 refine sM rfl ?_
 refine s_e rfl rfl (eC [] #[.U a1] Tryz.func30 (by decide) rfl (fun w ht=>handle_Index_con a1 w _)) ?_
 refine sA rfl ?_
 refine sE rfl ?_
 obtain ⟨j20_,e21_,H⟩:=bind_s H
 refine c_join (β:=Unit) (fun _=>True) (fun _=>[(1,.U a1),(2,.P b2_),(4,.bool false),(5,.I (a1 % 4294967296)),(18,.bool j20_)]) (fun _=>[.b b2_ (.cells (cfB p0 p1 p2 p3 p4 p5 p6 A0_7 l0_7.length c0_7) 104 (0,0)),.f (KU A0_7 c0_7 l0_7)]) rfl (fun _ _=>?_) (fun J_=>?_)
 rcases Bool.eq_false_or_eq_true j20_ with h22_ | h22_
 subst h22_
 replace H:=ite_y rfl H
 refine c_cond1 rfl rfl ?_
 refine c_seq rfl ?_
 refine r_ordb (l:=[0]) rfl (by kernel_rfl) ?_
 refine sA rfl ?_
 refine sQ ?_
 refine c_ret rfl ?_
 refine q_then_ret ?_
 have e_:=Option.some.inj H
 subst e_
 exact q_ret (vs:=[.bool false]) rfl (.tmp rfl .nil) [] rfl (by decide) (hX)
 subst h22_
 replace H:=ite_n (by decide) H
 refine c_cond0 rfl rfl ?_
 refine kQ rfl ?_
 refine c_seq rfl ?_
 refine c_seq rfl ?_
 refine r_ordb (l:=[0,1,2,3,4]) rfl (by kernel_rfl) ?_
 refine sV rfl (vLA [.I p0,.I p1,.I p2,.I p3,.I p4,.I p5,.I p6,.slice A0_7 l0_7.length c0_7] 0 Tryz.underlying104 SZ104 rfl) ?_
 refine sM rfl ?_
 obtain ⟨t25_,e26_,H⟩:=bind_s H
 refine s_e rfl rfl (eC [1] #[.agg (cfB p0 p1 p2 p3 p4 p5 p6 A0_7 l0_7.length c0_7),.I (a1 % 4294967296),.I 4] Tryz.func78 (by decide) rfl (fun w ht=>sw_at_con p0 p1 p2 p3 p4 p5 p6 A0_7 c0_7 l0_7 (a1 % 4294967296) 4 t25_ e26_ w _)) ?_
 refine sV rfl (v_conv rfl Tryz.underlying41 Tryz.underlying3 rfl) ?_
 refine sM rfl ?_
 refine sQ ?_
 refine c_block rfl ?_
 refine c_loop (σ:=Nat × Int) (fun (k,x42_)=>sw_settled.l0 k p0 p1 p2 p3 p4 p5 p6 l0_7 a1 t25_ x42_=some r0) (fun (k,x42_)=>k) (fun (k,x42_)=>[(1,.U a1),(2,.P b2_),(4,.bool false),(22,.I (IntKind.wrap .i64 t25_)),(23,.I x42_)]) (fun (k,x42_)=>[.b b2_ (.cells (cfB p0 p1 p2 p3 p4 p5 p6 A0_7 l0_7.length c0_7) 104 (0,0)),.f (KU A0_7 c0_7 l0_7)]) (k,0) [0,1] rfl H (subF_spec ⟨rfl,rfl,rfl,rfl,rfl,trivial⟩) rfl (by decide) ?_
 rintro ⟨k0_,x42_⟩ hs58_
 clear H
 have H:sw_settled.l0 k0_ p0 p1 p2 p3 p4 p5 p6 l0_7 a1 t25_ x42_=some r0:=hs58_
 try clear hs58_
 rcases k0_ with _ | k0_
 exact none_no (show none=_ from H)
 unfold sw_settled.l0 at H
 have hko_0:k0_≤k0_:=Nat.le_refl _
 refine c_seq rfl ?_
 refine r_ordb (l:=[0]) rfl (by kernel_rfl) ?_
 refine sR rfl ?_
 refine sE rfl ?_
 rcases Bool.eq_false_or_eq_true (decide ((x42_:Int)<(IntKind.wrap .i64 t25_))) with h62_ | h62_
 replace H:=ite_y (dec_t h62_) H
 refine cT h62_ rfl ?_
 refine kQ rfl ?_
 refine c_seq rfl ?_
 refine c_block rfl ?_
 refine c_seq rfl ?_
 refine r_ordb (l:=[0,1]) rfl (by kernel_rfl) ?_
 refine sM rfl ?_
 refine sA rfl ?_
 refine sQ ?_
 obtain ⟨⟨j85_,j86_,j87_⟩,e88_,H⟩:=bind_s H
 refine c_join (β:=Unit) (fun _=>True) (fun _=>[(1,.U a1),(2,.P b2_),(4,.bool false),(22,.I (IntKind.wrap .i64 t25_)),(23,.I x42_),(24,.bool (decide ((x42_:Int)<(IntKind.wrap .i64 t25_)))),(25,.I x42_),(6,.I x42_),(26,.agg (cfB p0 p1 p2 p3 p4 p5 p6 A0_7 l0_7.length c0_7)),(27,.U a1),(28,.I x42_),(29,.bool j85_),(30,.bool j86_),(40,.bool j87_)]) (fun _=>[.b b2_ (.cells (cfB p0 p1 p2 p3 p4 p5 p6 A0_7 l0_7.length c0_7) 104 (0,0)),.f (KU A0_7 c0_7 l0_7)]) rfl (fun _ _=>?_) (fun J_=>?_)
 rcases Bool.eq_false_or_eq_true j87_ with h89_ | h89_
 subst h89_
 replace H:=ite_y rfl H
 refine c_cond1 rfl rfl ?_
 refine c_seq rfl ?_
 refine r_ordb (l:=[0]) rfl (by kernel_rfl) ?_
 refine sA rfl ?_
 refine sQ ?_
 refine c_ret rfl ?_
 refine q_block_ret ?_
 refine q_then_ret ?_
 refine q_then_ret ?_
 refine q_block_ret ?_
 refine q_then_ret ?_
 have e_:=Option.some.inj H
 subst e_
 exact q_ret (vs:=[.bool false]) rfl (.tmp rfl .nil) [] rfl (by decide) (hX)
 subst h89_
 replace H:=ite_n (by decide) H
 refine c_cond0 rfl rfl ?_
 refine c_skip rfl ?_
 refine q_block ?_
 refine q_seq ?_
 refine r_ordb (l:=[0,1]) rfl (by kernel_rfl) ?_
 refine sR rfl ?_
 refine sM rfl ?_
 refine s_end ?_
 exact q_again (k0_,IntKind.wrap .i64 (x42_+1)) [0,1] H (Nat.lt_succ_of_le hko_0) (subF_spec ⟨rfl,rfl,rfl,rfl,rfl,trivial⟩) rfl (by decide)
 clear H
 have H:=e88_
 clear e88_
 refine r_ordb (l:=[0,1,2,3,4,5,6,7,8,9,10,11,12,13,14]) rfl (by kernel_rfl) ?_
 refine sV rfl (vLA [.I p0,.I p1,.I p2,.I p3,.I p4,.I p5,.I p6,.slice A0_7 l0_7.length c0_7] 0 Tryz.underlying104 SZ104 rfl) ?_
 refine sM rfl ?_
 refine sM rfl ?_
 obtain ⟨t90_,e91_,H⟩:=bind_s H
 refine s_e rfl rfl (eC [1] #[.agg (cfB p0 p1 p2 p3 p4 p5 p6 A0_7 l0_7.length c0_7),.U a1,.I x42_] Tryz.func114 (by decide) rfl (fun w ht=>sw_marked_con p0 p1 p2 p3 p4 p5 p6 A0_7 c0_7 l0_7 a1 x42_ t90_ e91_ w _)) ?_
 refine sM rfl ?_
 rcases Bool.eq_false_or_eq_true t90_ with h92_ | h92_
 subst h92_
 replace H:=ite_y rfl H
 refine sN rfl ?_
 refine sN rfl ?_
 refine sN rfl ?_
 refine sN rfl ?_
 refine sN rfl ?_
 refine sN rfl ?_
 refine sN rfl ?_
 refine sN rfl ?_
 refine sN rfl ?_
 refine sP rfl ?_
 refine s_end ?_
 have hq_0:=Option.some.inj H
 obtain ⟨ee_0,hq_1⟩:=Prod.mk.inj hq_0
 obtain ⟨ee_1,hq_2⟩:=Prod.mk.inj hq_1
 subst ee_0
 subst ee_1
 subst hq_2
 exact q_seq (c_frame (subF_spec (by exact ⟨rfl,rfl,rfl,rfl,rfl,rfl,rfl,rfl,rfl,rfl,rfl,rfl,rfl,rfl,trivial⟩)) (c_take [0,1] rfl (by decide) (J_ () trivial)))
 subst h92_
 replace H:=ite_n (by decide) H
 refine sG rfl (vF Tryz.underlying104 SZ23 rfl) ?_
 refine sG rfl (vLA (lfA p0 p1 p2 p3 p4 p5 p6) 0 Tryz.underlying23 SZ23 rfl) ?_
 refine sG rfl (vF Tryz.underlying104 SZ24 rfl) ?_
 refine sG rfl (vL 0 Tryz.underlying24 rfl) ?_
 refine sG rfl (vM rfl) ?_
 obtain ⟨t93_,e94_,H⟩:=bind_s H
 refine s_eg rfl rfl (eC [1] #[.agg (cfA p0 p1 p2 p3 p4 p5 p6),.slice A0_7 l0_7.length c0_7,.I x42_] Tryz.func22 (by decide) rfl (fun w ht=>shape_Level_con _ p0 p1 p2 p3 p4 p5 p6 A0_7 c0_7 l0_7 x42_ t93_ e94_ w _)) ?_
 intro A95_ c96_
 refine sG rfl (vM rfl) ?_
 obtain ⟨t97_,e98_,H⟩:=bind_s H
 refine s_eg rfl rfl (eC [0] #[.slice A95_ t93_.length c96_,.U a1] Tryz.func64 (by decide) rfl (fun w ht=>slices_Contains_uint64_uint64_con _ A95_ c96_ t93_ a1 t97_ e98_ w _)) ?_
 refine sG rfl (v_not rfl rfl) ?_
 refine sP rfl ?_
 refine s_end ?_
 have hq_0:=Option.some.inj H
 obtain ⟨ee_0,hq_1⟩:=Prod.mk.inj hq_0
 obtain ⟨ee_1,hq_2⟩:=Prod.mk.inj hq_1
 subst ee_0
 subst ee_1
 subst hq_2
 exact q_seq (c_frame (subF_spec (by exact ⟨rfl,rfl,rfl,rfl,rfl,rfl,rfl,rfl,rfl,rfl,rfl,rfl,rfl,rfl,trivial⟩)) (c_take [1,2] rfl (by decide) (J_ () trivial)))
 replace H:=ite_n (dec_f h62_) H
 refine cF h62_ rfl ?_
 refine c_exit (i:=0) rfl rfl ?_
 refine q_then_exit ?_
 refine q_then_exit ?_
 refine q_block_here rfl ?_
 refine q_seq ?_
 refine c_seq rfl ?_
 refine r_ordb (l:=[0]) rfl (by kernel_rfl) ?_
 refine sA rfl ?_
 refine sQ ?_
 refine c_ret rfl ?_
 have e_:=Option.some.inj H
 subst e_
 exact q_ret (vs:=[.bool true]) rfl (.tmp rfl .nil) [] rfl (by decide) (hX)
 clear H
 have H:=e21_
 clear e21_
 refine r_ordb (l:=[0,1,2,3,4,5,6,7,8,9]) rfl (by kernel_rfl) ?_
 refine sV rfl (vLA [.I p0,.I p1,.I p2,.I p3,.I p4,.I p5,.I p6,.slice A0_7 l0_7.length c0_7] 0 Tryz.underlying104 SZ104 rfl) ?_
 refine sM rfl ?_
 obtain ⟨t100_,e101_,H⟩:=bind_s H
 refine s_e rfl rfl (eC [1] #[.agg (cfB p0 p1 p2 p3 p4 p5 p6 A0_7 l0_7.length c0_7),.I (a1 % 4294967296),.I 2] Tryz.func78 (by decide) rfl (fun w ht=>sw_at_con p0 p1 p2 p3 p4 p5 p6 A0_7 c0_7 l0_7 (a1 % 4294967296) 2 t100_ e101_ w _)) ?_
 obtain ⟨t102_,e103_,H⟩:=bind_s H
 refine s_e rfl rfl (eC [] #[.U t100_] Tryz.func113 (by decide) rfl (fun w ht=>slot_Dead_con t100_ t102_ e103_ w _)) ?_
 refine sM rfl ?_
 rcases Bool.eq_false_or_eq_true t102_ with h104_ | h104_
 subst h104_
 replace H:=ite_y rfl H
 refine sN rfl ?_
 refine sN rfl ?_
 refine sN rfl ?_
 refine sN rfl ?_
 refine sP rfl ?_
 refine s_end ?_
 have hq_0:=Option.some.inj H
 subst hq_0
 exact q_seq (c_frame (subF_spec (by exact ⟨rfl,rfl,rfl,rfl,rfl,trivial⟩)) (c_take [0,1] rfl (by decide) (J_ () trivial)))
 subst h104_
 replace H:=ite_n (by decide) H
 refine sG rfl (vLA [.I p0,.I p1,.I p2,.I p3,.I p4,.I p5,.I p6,.slice A0_7 l0_7.length c0_7] 0 Tryz.underlying104 SZ104 rfl) ?_
 refine sG rfl (vM rfl) ?_
 obtain ⟨t105_,e106_,H⟩:=bind_s H
 refine s_eg rfl rfl (eC [1] #[.agg (cfB p0 p1 p2 p3 p4 p5 p6 A0_7 l0_7.length c0_7),.I (a1 % 4294967296),.I 5] Tryz.func78 (by decide) rfl (fun w ht=>sw_at_con p0 p1 p2 p3 p4 p5 p6 A0_7 c0_7 l0_7 (a1 % 4294967296) 5 t105_ e106_ w _)) ?_
 refine sG rfl (vR rfl) ?_
 refine sP rfl ?_
 refine s_end ?_
 have hq_0:=Option.some.inj H
 subst hq_0
 exact q_seq (c_frame (subF_spec (by exact ⟨rfl,rfl,rfl,rfl,rfl,trivial⟩)) (c_take [0,1] rfl (by decide) (J_ () trivial)))
end Go.Eng
namespace Go.Eng
open Go.Proofs Go.RowKit Go.Proofs.YtgbcnokeaaabfaaGreatW.PrintWords
set_option linter.unusedVariables false
set_option linter.unusedSimpArgs false
set_option maxRecDepth 100000 in
set_option maxHeartbeats 4000000 in
theorem slices_Clone_uint64_uint64_own (A0:Option Addr) (c0:Nat) (l0:List Int) (hl:l0.length<17592186044416) (w0:World) (Hs:List Nat):Con Tryz.prog 27 #[.slice A0 l0.length c0] w0 Hs [.f (KU A0 c0 l0)] (fun X=>∀ ro,ORow 1 (fun x=>[.U x]) ro l0→X (.slice (OA ro) l0.length (OC ro)) [OE 41 ro]):=by
 rcases A0 with _ | ad
 ·
  refine con_enter (c:=bodyOf Tryz.f27) Tryz.func27 rfl (m:=8) rfl rfl rfl ?_
  intro X hX ht_
  have hn:l0=[]:=KC_nonil (ht_.fact 0 rfl)
  refine c_seq rfl ?_
  refine r_ordb (l:=[0]) rfl (by kernel_rfl) ?_
  refine sA rfl ?_
  refine sE rfl ?_
  refine c_seq rfl ?_
  refine r_ordb (l:=[0,1]) rfl (by kernel_rfl) ?_
  refine sM rfl ?_
  refine sV rfl (v_eqSN rfl Tryz.underlying24 rfl rfl) ?_
  refine sQ ?_
  refine c_cond1 rfl rfl ?_
  refine c_seq rfl ?_
  refine r_ordb (l:=[0]) rfl (by kernel_rfl) ?_
  refine sA rfl ?_
  refine sQ ?_
  refine c_ret rfl ?_
  refine q_then_ret ?_
  refine q_know (φ:=fun _=>True) (fun _=>trivial) ?_
  have hX1:=hX none hn
  rw [hn] at hX1
  exact q_ret (vs:=[.slice none 0 0]) rfl (.tmp rfl .nil) [0] rfl (by decide) hX1
 ·
  refine con_enter (c:=bodyOf Tryz.f27) Tryz.func27 rfl (m:=8) rfl rfl rfl ?_
  intro X hX ht_
  refine c_seq rfl ?_
  refine r_ordb (l:=[0]) rfl (by kernel_rfl) ?_
  refine sA rfl ?_
  refine sE rfl ?_
  refine c_seq rfl ?_
  refine r_ordb (l:=[0,1]) rfl (by kernel_rfl) ?_
  refine sM rfl ?_
  refine sV rfl (v_eqSN rfl Tryz.underlying24 rfl rfl) ?_
  refine sQ ?_
  refine c_cond0 rfl rfl ?_
  refine kQ rfl ?_
  refine c_seq rfl ?_
  refine r_ordb (l:=[0,1,2,3]) rfl (by kernel_rfl) ?_
  refine s_e rfl rfl (e_bslice0 rfl rfl rfl Tryz.underlying24 SZ41) ?_
  intro b5_
  refine sM rfl ?_
  refine s_e rfl rfl (e_appOK (flat_int .u64) (xs:=([]:List Int)) (ro:=(some (b5_,0,#[]))) (l:=l0) (z:=(.U 0)) (m:=1) (bytes:=8) (i:=1) (j:=0) rfl rfl rfl rfl rfl rfl Tryz.underlying24 (by kernel_rfl) rfl rfl rfl rfl orow_empty rfl rfl rfl (by first | omega | (simp only [List.length_nil,Nat.zero_add]; omega)) (by simp only [maxLen]; first | omega | (simp only [List.length_nil,Nat.zero_add]; omega))) ?_
  intro ro6_ hr7_ sm8_
  refine sA rfl ?_
  refine sQ ?_
  refine c_ret rfl ?_
  exact q_ret (vs:=[.slice (OA ro6_) ((([]:List Int) ++ l0).length) (OC ro6_)]) rfl (.tmp rfl .nil) [0] rfl (by decide) (hX ro6_ hr7_)
def shape_Rest.b3 (k:Nat) (p0:Int) (p1:Int) (p2:Int) (p3:Int) (p4:Int) (p5:Int) (p6:Int) (l1:List Int) (t24_:List Int) (κ_:Unit→Option Bool) (x234_ x235_:Int) (st_:Unit):Option Bool:=match st_ with | _=>((slices_Contains_uint64_uint64.f k t24_ x235_).bind fun t256_=>(if t256_=true then (sw_settled.f k p0 p1 p2 p3 p4 p5 p6 l1 x235_).bind fun t261_=>some (!t261_) else some true):Option Bool).bind fun j253_=>(if j253_=true then some false else κ_ ())
mutual
def shape_Rest.l5:Nat→Int→Int→Int→Int→Int→Int→Int→List Int→List Int→Int→Option Bool
 | 0,_,_,_,_,_,_,_,_,_,_=>none
 | k+1,p0,p1,p2,p3,p4,p5,p6,l1,xs314_,x416_=>(if (x416_:Int)≤p2 then (sw_at.f p0 p1 p2 p3 p4 p5 p6 l1 x416_ 0).bind fun t454_=>(slot_State.f t454_).bind fun t456_=>((if 0≤(x416_:Int) then (if (x416_:Int)<((Int.toNat (IntKind.wrap .i64 (p2+1))):Int) then (if (rd xs314_ x416_:Int) > 1 then some (true,true) else some (false,!(((t456_:Int) == 1) == ((rd xs314_ x416_:Int) == 1)))) else none) else none):Option (Bool × Bool)).bind fun (j463_,j464_)=>(if j464_=true then some false else shape_Rest.l5 k p0 p1 p2 p3 p4 p5 p6 l1 xs314_ (IntKind.wrap .i64 (x416_+1))) else some true)
def shape_Rest.l4:Nat→Int→Int→Int→Int→Int→Int→Int→List Int→List Int→Int→List Int→Option Bool
 | 0,_,_,_,_,_,_,_,_,_,_,_=>none
 | k+1,p0,p1,p2,p3,p4,p5,p6,l1,xs52_,x313_,xs314_=>(if (x313_:Int)<(xs52_.length:Int) then (if 0≤(x313_:Int) then ((sw_names.f p0 p1 p2 p3 p4 p5 p6 l1 (rd xs52_ x313_)).bind fun t391_=>(if t391_=true then (handle_Marked.f (rd xs52_ x313_)).bind fun t396_=>(if t396_=true then some (t391_,!t391_,false,true,true,true) else (sw_taken.f p0 p1 p2 p3 p4 p5 p6 l1 (rd xs52_ x313_)).bind fun t399_=>some (t391_,!t391_,false,false,false,!t399_)) else some (t391_,!t391_,true,true,true,true)):Option (Bool × Bool × Bool × Bool × Bool × Bool)).bind fun (j381_,j382_,j383_,j384_,j385_,j386_)=>(if j386_=true then some false else (if 0≤(((rd xs52_ x313_) % 4294967296):Int) then (if (((rd xs52_ x313_) % 4294967296):Int)<((Int.toNat (IntKind.wrap .i64 (p2+1))):Int) then shape_Rest.l4 k p0 p1 p2 p3 p4 p5 p6 l1 xs52_ (IntKind.wrap .i64 (x313_+1)) (xs314_.set (Int.toNat ((rd xs52_ x313_) % 4294967296)) (IntKind.wrap .i64 ((rd xs314_ ((rd xs52_ x313_) % 4294967296))+1))) else none) else none)) else none) else shape_Rest.l5 k p0 p1 p2 p3 p4 p5 p6 l1 xs314_ 1)
def shape_Rest.l2:Nat→Int→Int→Int→Int→Int→Int→Int→List Int→List Int→List Int→Int→Option Bool
 | 0,_,_,_,_,_,_,_,_,_,_,_=>none
 | k+1,p0,p1,p2,p3,p4,p5,p6,l1,t24_,xs52_,x187_=>(if (x187_:Int)<p3 then (if okB p0 p1 p2 p3 p4 p5 p6 l1 x187_=true then (if 2000≤k then (rng (shape_Rest.b3 k p0 p1 p2 p3 p4 p5 p6 l1 t24_) (lvlF p0 p1 p2 p3 p4 p5 p6 l1 x187_) (fun (s_:Unit)=>shape_Rest.l2 k p0 p1 p2 p3 p4 p5 p6 l1 t24_ xs52_ (IntKind.wrap .i64 (x187_+1))) ()) else none) else none) else (if 0≤(IntKind.wrap .i64 (p2+1):Int) then (if (IntKind.wrap .i64 (p2+1):Int)<17592186044416 then shape_Rest.l4 k p0 p1 p2 p3 p4 p5 p6 l1 xs52_ 0 (List.replicate (Int.toNat (IntKind.wrap .i64 (p2+1))) (0:Int)) else none) else none))
def shape_Rest.l1:Nat→Int→Int→Int→Int→Int→Int→Int→List Int→List Int→List Int→Int→Option Bool
 | 0,_,_,_,_,_,_,_,_,_,_,_=>none
 | k+1,p0,p1,p2,p3,p4,p5,p6,l1,t24_,xs52_,x101_=>(if (x101_:Int)<(l1.length:Int) then (plan_Where.f p0 p1 p2 p3 p4 p5 p6 x101_).bind fun (t141_,t142_,t143_)=>(if (t141_:Int)=2 then (if 0≤(x101_:Int) then (if (rd l1 x101_:Int)=0 then shape_Rest.l1 k p0 p1 p2 p3 p4 p5 p6 l1 t24_ xs52_ (IntKind.wrap .i64 (x101_+1)) else some false) else none) else shape_Rest.l1 k p0 p1 p2 p3 p4 p5 p6 l1 t24_ xs52_ (IntKind.wrap .i64 (x101_+1))) else shape_Rest.l2 k p0 p1 p2 p3 p4 p5 p6 l1 t24_ xs52_ 0)
def shape_Rest.l0:Nat→Int→Int→Int→Int→Int→Int→Int→List Int→List Int→List S53→Int→List Int→Option Bool
 | 0,_,_,_,_,_,_,_,_,_,_,_,_=>none
 | k+1,p0,p1,p2,p3,p4,p5,p6,l1,t24_,t39_,x54_,xs52_=>(if (x54_:Int)<(t39_.length:Int) then (if 0≤(x54_:Int) then (if xs52_.length<17592186044416 then shape_Rest.l0 k p0 p1 p2 p3 p4 p5 p6 l1 t24_ t39_ (IntKind.wrap .i64 (x54_+1)) (xs52_ ++ [(rd_T53 t39_ x54_).f0]) else none) else none) else shape_Rest.l1 k p0 p1 p2 p3 p4 p5 p6 l1 t24_ xs52_ 0)
end
def shape_Rest.f (k:Nat) (p0:Int) (p1:Int) (p2:Int) (p3:Int) (p4:Int) (p5:Int) (p6:Int) (l1:List Int) (l2:List (List S53)):Option Bool:=(shape_Right.f k p0 p1 p2 p3 p4 p5 p6 l1).bind fun t14_=>(if t14_=true then (shape_Level.f k p0 p1 p2 p3 p4 p5 p6 l1 0).bind fun t24_=>(if t24_.length<17592186044416 then (slConcat.f k l2).bind fun t39_=>shape_Rest.l0 k p0 p1 p2 p3 p4 p5 p6 l1 t24_ t39_ 0 t24_ else none) else some false)
theorem Level_some_len {k:Nat} {T S C H K V L lev:Int} {l t:List Int} (h:shape_Level.f k T S C H K V L l lev=some t):t.length≤65:=by
 by_cases hok:okB T S C H K V L l lev=true∧1000≤k
 ·have h2:=Level_is hok.2 T S C H K V L l (okB_iff.1 hok.1).2.2.2.2 lev
  rw [h,if_pos hok.1] at h2
  injection h2 with h2
  have:=lvl_len hok.1
  rw [h2,List.length_map]
  exact this
 ·unfold shape_Level.f at h
  rw [whole_is] at h
  simp only [Option.bind_some] at h
  obtain ⟨j,_,h⟩:=bind_s h
  cases j with
  | true=>injection h with h; rw [← h]; simp
  | false =>
   replace h:=ite_n (by decide) h
   obtain ⟨h1,h⟩:=ite_no h
   obtain ⟨h2,h⟩:=ite_no h
   exact absurd ⟨h1,h2⟩ hok
section
variable {T S C H K V L:Int} {l:List Int}
theorem rng_nodes {k:Nat} {lev:Int} {κ:Int × Int→Option Bool}:∀ (ys:List (Int × Int)) (s:Int × Int),rng (sw_right.b0 k T S C H K V L l lev) ys κ s=some true→∀ p∈ys,sw_node.f k T S C H K V L l p.2 lev=some true
 | [],_,_,p,hp=>by cases hp
 | y :: ys,s,h,p,hp=>by
  have h':sw_right.b0 k T S C H K V L l lev (fun s'=>rng (sw_right.b0 k T S C H K V L l lev) ys κ s') y.1 y.2 s=some true:=h
  obtain ⟨s1,s2⟩:=s
  rw [sw_right.b0] at h'
  obtain ⟨j,_,h'⟩:=bind_s h'
  obtain ⟨j2,e2,h'⟩:=bind_s h'
  cases j2 with
  | true=>replace h':=ite_y rfl h'; cases h'
  | false =>
   replace h':=ite_n (by decide) h'
   obtain ⟨t1,_,h'⟩:=bind_s h'
   obtain ⟨t2,_,h'⟩:=bind_s h'
   rcases List.mem_cons.1 hp with rfl | hp
   ·split at e2
    ·cases e2
    ·split at e2
     ·obtain ⟨q,eq_,e3⟩:=bind_s e2
      injection e3 with e3
      have:q=true:=by simpa using e3
      rw [eq_,this]
     ·cases e2
   ·exact rng_nodes ys _ h' p hp
theorem right_nodes {k:Nat} {lev:Int} (h:sw_right.f k T S C H K V L l lev=some true):okB T S C H K V L l lev=true∧∀ p∈lvlF T S C H K V L l lev,sw_node.f k T S C H K V L l p.2 lev=some true:=by
 unfold sw_right.f at h
 obtain ⟨t1,_,h⟩:=bind_s h
 obtain ⟨t2,_,h⟩:=bind_s h
 cases t2 with
 | true=>replace h:=ite_y rfl h; cases h
 | false =>
  replace h:=ite_n (by decide) h
  obtain ⟨hok,h⟩:=ite_no h
  obtain ⟨_,h⟩:=ite_no h
  exact ⟨hok,rng_nodes _ _ h⟩
theorem Right_l0 (hH:H≤6):∀ (k:Nat) (x:Int),0≤x→shape_Right.l0 k T S C H K V L l x=some true→∀ lev,x≤lev→lev<H→∃ k',sw_right.f k' T S C H K V L l lev=some true
 | 0,x,_,h,_,_,_=>by cases h
 | k+1,x,h0,h,lev,h1,h2=>by
  rw [shape_Right.l0] at h
  replace h:=ite_y (show x<H by omega) h
  obtain ⟨t,e,h⟩:=bind_s h
  cases t with
  | false=>replace h:=ite_n (by decide) h; cases h
  | true =>
   replace h:=ite_y rfl h
   rw [wi64 (n:=x+1) (by omega) (by omega)] at h
   by_cases hx:x=lev
   ·rw [← hx]; exact ⟨k,e⟩
   ·exact Right_l0 hH k (x+1) (by omega) h lev (by omega) h2
theorem Right_levels {k:Nat} (h:shape_Right.f k T S C H K V L l=some true) {lev:Int} (h1:0≤lev) (h2:lev<H):∃ k',sw_right.f k' T S C H K V L l lev=some true:=by
 unfold shape_Right.f at h
 rw [whole_is] at h
 simp only [Option.bind_some] at h
 obtain ⟨j,ej,h⟩:=bind_s h
 cases j with
 | true=>replace h:=ite_y rfl h; cases h
 | false =>
  replace h:=ite_n (by decide) h
  have hw:(r7 T S C H K V L && decide ((l.length:Int)=lenI T S C H))=true:=by
   by_cases hw:(r7 T S C H K V L && decide ((l.length:Int)=lenI T S C H))=true
   ·exact hw
   ·rw [if_neg hw] at ej; cases ej
  rw [Bool.and_eq_true,r7_iff] at hw
  exact Right_l0 (by have:=hw.1.h; omega) k 0 (Int.le_refl _) h lev h1 h2
theorem node_tall {k:Nat} {lev h:Int} (hok:okB T S C H K V L l lev=true) (h1:0≤h % 4294967296) (h2:h % 4294967296≤C) (hn:sw_node.f k T S C H K V L l h lev=some true):0≤rd l (cellI T S H (h % 4294967296) 4)∧rd l (cellI T S H (h % 4294967296) 4)≤H:=by
 obtain ⟨hr,hl,h3,h4,hp⟩:=okB_iff.1 hok
 have hH:=hr.h
 have hf:isF C H (h % 4294967296) 4=true:=isF_iff.2 ⟨h1,h2,by omega,by omega⟩
 obtain ⟨tk,etk⟩:=taken_tot hr hl h1 h2
 unfold sw_node.f at hn
 rw [at_some hr hl hf,etk,wu64 (n:=lev) (by omega) (by omega),wu64 (n:=H) (by omega) (by omega)] at hn
 simp only [Option.bind_some] at hn
 obtain ⟨j,ej,hn⟩:=bind_s hn
 cases j with
 | true=>replace hn:=ite_y rfl hn; cases hn
 | false =>
  cases tk with
  | false=>cases ej
  | true =>
   replace ej:=ite_y rfl ej
   split at ej
   ·cases ej
   ·injection ej with ej
    have:=of_decide_eq_false ej
    omega
theorem settled_l0 (hr:R7 T S C H K V L) (hl:(l.length:Int)=lenI T S C H) (hp:∀ x∈l,0≤x) {h:Int} (h1:0≤h % 4294967296) (h2:h % 4294967296≤C) (t:Int) (h0:0≤t) (ht:t≤H):∀ (m k:Nat) (x:Int),0≤x→t - x≤m→m+1001≤k→∃ r,sw_settled.l0 k T S C H K V L l h t x=some r:=by
 have hH:=hr.h
 have hw:IntKind.wrap .i64 t=t:=wi64 (by omega) (by omega)
 intro m
 induction m with
 | zero =>
  intro k x hx hm hk
  cases k with
  | zero=>omega
  | succ k=>exact ⟨true,by rw [sw_settled.l0,hw,if_neg (by omega)]⟩
 | succ m ih =>
  intro k x hx hm hk
  cases k with
  | zero=>omega
  | succ k =>
   rw [sw_settled.l0,hw]
   by_cases hlt:x<t
   ·rw [if_pos hlt]
    obtain ⟨r,e⟩:=marked_tot hr hl h1 h2 hx (show x<H by omega)
    have e2:IntKind.wrap .i64 (x+1)=x+1:=wi64 (by omega) (by omega)
    have hL:=Level_is (show 1000≤k by omega) T S C H K V L l hp x
    have hlen:=Level_some_len hL
    obtain ⟨c,ec⟩:=contains_tot (show 1000≤k by omega) (show _≤100 from Nat.le_trans hlen (by decide)) h
    rw [e,e2,hL]
    simp only [Option.bind_some]
    rw [ec]
    simp only [Option.bind_some]
    obtain ⟨r2,er2⟩:=ih k (x+1) (by omega) (by omega) (by omega)
    cases r with
    | true=>exact ⟨false,rfl⟩
    | false =>
     cases c with
     | false=>exact ⟨false,rfl⟩
     | true=>exact ⟨r2,er2⟩
   ·rw [if_neg hlt]
    exact ⟨true,rfl⟩
theorem settled_tot {k:Nat} (hk:2000≤k) {lev h:Int} (hok:okB T S C H K V L l lev=true) (h1:0≤h % 4294967296) (h2:h % 4294967296≤C) (ht:0≤rd l (cellI T S H (h % 4294967296) 4)∧rd l (cellI T S H (h % 4294967296) 4)≤H):∃ r,sw_settled.f k T S C H K V L l h=some r:=by
 obtain ⟨hr,hl,h3,h4,hp⟩:=okB_iff.1 hok
 have hH:=hr.h
 have f:=fun (i:Int) (h0:0≤i) (hi:i<6)=>at_some hr hl (isF_iff.2 ⟨h1,h2,h0,by omega⟩:isF C H (h % 4294967296) i=true)
 unfold sw_settled.f slot_Dead.f
 rw [f 2 (by decide) (by decide),f 5 (by decide) (by decide),f 4 (by decide) (by decide)]
 simp only [Option.bind_some]
 obtain ⟨r,er⟩:=settled_l0 hr hl hp h1 h2 _ ht.1 ht.2 10 k 0 (Int.le_refl _) (by omega) (by omega)
 rw [er]
 generalize (((IntKind.wrap .u64 (BitVec.ofInt (IntKind.bits .u64) (rd l (cellI T S H (h % 4294967296) 2)) &&& BitVec.ofInt (IntKind.bits .u64) 1).toNat:Int)) == 1)=q
 cases q with
 | true=>exact ⟨false,rfl⟩
 | false =>
  generalize (rd l (cellI T S H (h % 4294967296) 5) != 1)=q2
  cases q2 with
  | true=>exact ⟨false,rfl⟩
  | false=>exact ⟨r,rfl⟩
theorem shape_Rest_tot3 (k:Nat) (T S C H K V L:Int) (l t:List Int) {lev:Int} (hfu:2000≤k) (hok:okB T S C H K V L l lev=true) {k0:Nat} {tR:Bool} (hR:shape_Right.f k0 T S C H K V L l=some tR) (hT:(!tR)=false) {k1:Nat} {lv1:Int} (hlow:shape_Level.f k1 T S C H K V L l lv1=some t) (r:Bool):∀ x∈lvlF T S C H K V L l lev,∀ s:Unit,True→∃ r',shape_Rest.b3 k T S C H K V L l t (fun _=>some r) x.1 x.2 s=some r':=by
 intro x hx s _
 obtain ⟨h1,h2,h3,h4⟩:=lvl_mem hx
 obtain ⟨_,_,h5,h6,_⟩:=okB_iff.1 hok
 rw [show tR=true from by simpa using hT] at hR
 obtain ⟨k',hk'⟩:=Right_levels hR h5 h6
 have ht:=node_tall hok (show 0≤x.2 % 4294967296 by omega) h4 ((right_nodes hk').2 x hx)
 obtain ⟨q,eq_⟩:=settled_tot hfu hok (show 0≤x.2 % 4294967296 by omega) h4 ht
 obtain ⟨c,ec⟩:=contains_tot (show 1000≤k by omega) (show t.length≤100 from Nat.le_trans (Level_some_len hlow) (by decide)) x.2
 rw [shape_Rest.b3,ec,eq_]
 simp only [Option.bind_some]
 cases c with
 | false=>exact ⟨false,rfl⟩
 | true =>
  cases q with
  | false=>exact ⟨false,rfl⟩
  | true=>exact ⟨r,rfl⟩
end
set_option maxRecDepth 100000 in
set_option maxHeartbeats 4000000 in
theorem shape_Rest_con (k:Nat) (p0:Int) (p1:Int) (p2:Int) (p3:Int) (p4:Int) (p5:Int) (p6:Int) (A1:Option Addr) (c1:Nat) (l1:List Int) (A2:Option Addr) (c2:Nat) (l2:List (List S53)) (r0:Bool) (h:shape_Rest.f k p0 p1 p2 p3 p4 p5 p6 l1 l2=some r0) (w0:World) (Hs:List Nat):Con Tryz.prog 26 #[.agg (cfA p0 p1 p2 p3 p4 p5 p6),.slice A1 l1.length c1,.slice A2 l2.length c2] w0 Hs [.f (KU A1 c1 l1),.f (KC (Kd.slice 53 k53) A2 c2 l2)] (fun X=>X (.bool r0) []):=by
 refine con_enterM (c:=bodyOf Tryz.f26) (k:=9) Tryz.func26 rfl (m:=142) rfl rfl rfl ?_
 intro X hX _
 refine c_knowT (φ:=DefOK []) DefOK.nil ?_
 have H:=h
 unfold shape_Rest.f at H
 clear h
 refine c_seq rfl ?_
 refine r_ordb (l:=[0,1]) rfl (by kernel_rfl) ?_
 refine s_e rfl rfl (e_box rfl rfl rfl rfl) ?_
 intro b3_
 refine s_e rfl rfl (e_alloc rfl rfl rfl ZR4) ?_
 intro b4_
 refine sE rfl ?_
 refine r_ordb (l:=[0,1,2,3,4]) rfl (by kernel_rfl) ?_
 refine sV rfl (vLA (lfA p0 p1 p2 p3 p4 p5 p6) 1 Tryz.underlying23 SZ23 rfl) ?_
 refine sM rfl ?_
 refine sV rfl (v_build (places:=#[(0,7),(7,1)]) (cfB p0 p1 p2 p3 p4 p5 p6 A1 l1.length c1) rfl ZR104 Tryz.underlying104 (by kernel_rfl) rfl (by kernel_rfl)) ?_
 refine s_e rfl rfl (e_alloc rfl rfl rfl ZR104) ?_
 intro b6_
 refine s_e rfl rfl (e_stA 0 rfl rfl SZ104 rfl rfl rfl rfl rfl rfl) ?_
 refine sE rfl ?_
 refine c_seq rfl ?_
 refine r_ordb (l:=[0,1,2,3]) rfl (by kernel_rfl) ?_
 refine sV rfl (vLA (lfA p0 p1 p2 p3 p4 p5 p6) 2 Tryz.underlying23 SZ23 rfl) ?_
 refine sM rfl ?_
 obtain ⟨t14_,e15_,H⟩:=bind_s H
 refine s_e rfl rfl (eC [4] #[.agg (cfA p0 p1 p2 p3 p4 p5 p6),.slice A1 l1.length c1] Tryz.func72 (by decide) rfl (fun w ht=>shape_Right_con _ p0 p1 p2 p3 p4 p5 p6 A1 c1 l1 t14_ e15_ w _)) ?_
 refine sV rfl (v_not rfl rfl) ?_
 refine sQ ?_
 rcases Bool.eq_false_or_eq_true (!t14_) with h16_ | h16_
 replace H:=ite_n (not_t (bnot_t h16_)) H
 refine cT h16_ rfl ?_
 refine c_seq rfl ?_
 refine r_ordb (l:=[0]) rfl (by kernel_rfl) ?_
 refine s_e rfl rfl (e_st 1 rfl rfl SZ4 rfl rfl rfl rfl (blt_lt rfl)) ?_
 refine sQ ?_
 refine c_ret rfl ?_
 refine q_then_ret ?_
 have e_:=Option.some.inj H
 subst e_
 exact q_retD (Ds:=[]) 3 rfl List.nodup_nil (fun _ h=>(by cases h)) [1] rfl (by decide) (cellsB.cons cellsB.nil) (.inl rfl) rfl (vs:=[.bool false]) (.cell 0 rfl Tryz.underlying4 rfl rfl rfl .nil) (hX)
 replace H:=ite_y (bnot_f h16_) H
 refine cF h16_ rfl ?_
 refine kQ rfl ?_
 refine c_seq rfl ?_
 refine r_ordb (l:=[0,1,2,3,4]) rfl (by kernel_rfl) ?_
 refine sV rfl (vLA (lfA p0 p1 p2 p3 p4 p5 p6) 2 Tryz.underlying23 SZ23 rfl) ?_
 refine sM rfl ?_
 obtain ⟨t24_,e25_,H⟩:=bind_s H
 refine s_e rfl rfl (eC [4] #[.agg (cfA p0 p1 p2 p3 p4 p5 p6),.slice A1 l1.length c1,.I 0] Tryz.func22 (by decide) rfl (fun w ht=>shape_Level_con _ p0 p1 p2 p3 p4 p5 p6 A1 c1 l1 0 t24_ e25_ w _)) ?_
 intro A26_ c27_
 refine s_e rfl rfl (e_alloc rfl rfl rfl ZR24) ?_
 intro b28_
 refine s_e rfl rfl (e_st 0 rfl rfl SZ24 rfl rfl rfl rfl (blt_lt rfl)) ?_
 refine sE rfl ?_
 refine r_ordb (l:=[0,1,2]) rfl (by kernel_rfl) ?_
 refine sV rfl (vL 0 Tryz.underlying24 rfl) ?_
 obtain ⟨n32_,H⟩:=ite_no H
 refine s_e rfl rfl (eC [1] #[.slice A26_ t24_.length c27_] Tryz.func27 (by decide) rfl (fun w ht=>slices_Clone_uint64_uint64_own A26_ c27_ t24_ n32_ w _)) ?_
 intro ro33_ hr34_
 refine sA rfl ?_
 refine sE rfl ?_
 refine c_seq rfl ?_
 refine r_ordb (l:=[0,1,2,3]) rfl (by kernel_rfl) ?_
 refine sM rfl ?_
 obtain ⟨t39_,e40_,H⟩:=bind_s H
 refine s_e rfl rfl (eC [8] #[.slice A2 l2.length c2] Tryz.func28 (by decide) rfl (fun w ht=>slConcat_con _ A2 c2 l2 t39_ e40_ w _)) ?_
 intro A41_ c42_
 refine sV rfl (v_len rfl rfl rfl Tryz.underlying29 rfl rfl) ?_
 refine sM rfl ?_
 refine sQ ?_
 refine c_block rfl ?_
 refine c_loop (σ:=Nat × Int × Ro × List Int) (fun (k,x54_,ro51_,xs52_)=>shape_Rest.l0 k p0 p1 p2 p3 p4 p5 p6 l1 t24_ t39_ x54_ xs52_=some r0∧ORow 1 (fun x=>[.U x]) ro51_ xs52_) (fun (k,x54_,ro51_,xs52_)=>k) (fun (k,x54_,ro51_,xs52_)=>[(1,.slice A1 l1.length c1),(3,.P b3_),(6,.P b4_),(7,.P b6_),(8,.P b28_),(9,.slice (OA ro51_) xs52_.length (OC ro51_)),(34,.slice A41_ t39_.length c42_),(35,.I (t39_.length:Int)),(36,.I x54_)]) (fun (k,x54_,ro51_,xs52_)=>[.f (KC k53 A41_ c42_ t39_),OE 41 ro51_,.b b28_ (.cells #[.slice A26_ t24_.length c27_] 24 (0,0)),.f (KU A26_ c27_ t24_),.b b6_ (.cells (cfB p0 p1 p2 p3 p4 p5 p6 A1 l1.length c1) 104 (0,0)),.b b4_ (.cells #[.bool false] 4 (0,0)),.b b3_ (.cells (cfA p0 p1 p2 p3 p4 p5 p6) 23 (0,0)),.f (DefOK []),.f (KU A1 c1 l1),.f (KC (Kd.slice 53 k53) A2 c2 l2)]) (k,0,ro33_,t24_) [0,1,2,3,4,5,6,7,8,9] rfl ⟨H,hr34_⟩ (subF_spec ⟨rfl,rfl,rfl,rfl,rfl,rfl,rfl,rfl,rfl,trivial⟩) rfl (by decide) ?_
 rintro ⟨k0_,x54_,ro51_,xs52_⟩ hs65_
 clear H
 obtain ⟨H,hr53_⟩:shape_Rest.l0 k0_ p0 p1 p2 p3 p4 p5 p6 l1 t24_ t39_ x54_ xs52_=some r0∧ORow 1 (fun x=>[.U x]) ro51_ xs52_:=hs65_
 try clear hs65_
 rcases k0_ with _ | k0_
 exact none_no (show none=_ from H)
 unfold shape_Rest.l0 at H
 have hko_0:k0_≤k0_:=Nat.le_refl _
 refine c_seq rfl ?_
 refine r_ordb (l:=[0]) rfl (by kernel_rfl) ?_
 refine sR rfl ?_
 refine sE rfl ?_
 rcases Bool.eq_false_or_eq_true (decide ((x54_:Int)<(t39_.length:Int))) with h69_ | h69_
 replace H:=ite_y (dec_t h69_) H
 refine cT h69_ rfl ?_
 refine kQ rfl ?_
 refine c_seq rfl ?_
 refine c_block rfl ?_
 refine c_seq rfl ?_
 refine r_ordb (l:=[0,1,2,3]) rfl (by kernel_rfl) ?_
 obtain ⟨n80_,H⟩:=ite_no H
 refine sV rfl (v_iaK (i:=0) rfl Tryz.underlying29 SZ53 rfl rfl rfl rfl n80_ (dec_t h69_)) ?_
 refine sV rfl (v_ldKA z53 [.U ((rd_T53 t39_ x54_).f0),.U ((rd_T53 t39_ x54_).f1),.U ((rd_T53 t39_ x54_).f2)] 0 rfl Tryz.underlying53 rfl SZ53 rfl rfl rfl rfl n80_ (dec_t h69_) (fun w K h=>k53_open h)) ?_
 refine s_e rfl rfl (e_alloc rfl rfl rfl ZR53) ?_
 intro b81_
 refine s_e rfl rfl (e_stA 0 rfl rfl SZ53 rfl rfl rfl rfl rfl rfl) ?_
 refine sQ ?_
 refine r_ordb (l:=[0,1,2,3,4,5]) rfl (by kernel_rfl) ?_
 refine sM rfl ?_
 refine sV rfl (vF Tryz.underlying53 SZ41 rfl) ?_
 refine sV rfl (vL 0 Tryz.underlying41 rfl) ?_
 refine s_e rfl rfl (e_bslice #[.U ((rd_T53 t39_ x54_).f0)] (.U 0) rfl rfl rfl Tryz.underlying24 SZ41 ZR41 (by decide) rfl (by kernel_rfl)) ?_
 intro b82_
 obtain ⟨n83_,H⟩:=ite_no H
 refine s_e rfl rfl (e_appO (enc:=(fun x=>[.U x])) (v:=((rd_T53 t39_ x54_).f0)) (xs:=xs52_) (ro:=ro51_) (z:=(.U 0)) (m:=1) (bytes:=8) (i:=0) (j:=3) rfl rfl rfl rfl rfl rfl Tryz.underlying24 (by kernel_rfl) rfl (by decide) rfl rfl hr53_ rfl rfl rfl rfl (by simp [Value.oneCell']) (by omega) (by simp only [maxLen]; omega)) ?_
 intro ro84_ hr85_ sm86_
 refine sA rfl ?_
 refine s_end ?_
 refine q_block ?_
 refine q_seq ?_
 refine r_ordb (l:=[0,1]) rfl (by kernel_rfl) ?_
 refine sR rfl ?_
 refine sM rfl ?_
 refine s_end ?_
 exact q_again (k0_,IntKind.wrap .i64 (x54_+1),ro84_,(xs52_ ++ [(rd_T53 t39_ x54_).f0])) [2,3,4,5,6,7,8,9,10,11] ⟨H,hr85_⟩ (Nat.lt_succ_of_le hko_0) (subF_spec ⟨rfl,rfl,rfl,rfl,rfl,rfl,rfl,rfl,rfl,trivial⟩) rfl (by decide)
 replace H:=ite_n (dec_f h69_) H
 refine cF h69_ rfl ?_
 refine c_exit (i:=0) rfl rfl ?_
 refine q_then_exit ?_
 refine q_then_exit ?_
 refine q_block_here rfl ?_
 refine q_seq ?_
 refine c_seq rfl ?_
 refine c_seq rfl ?_
 refine r_ordb (l:=[0,1,2]) rfl (by kernel_rfl) ?_
 refine sM rfl ?_
 refine sV rfl (v_len rfl rfl rfl Tryz.underlying24 rfl rfl) ?_
 refine sM rfl ?_
 refine sQ ?_
 refine c_block rfl ?_
 refine c_loop (σ:=Nat × Int) (fun (k,x101_)=>shape_Rest.l1 k p0 p1 p2 p3 p4 p5 p6 l1 t24_ xs52_ x101_=some r0) (fun (k,x101_)=>k) (fun (k,x101_)=>[(1,.slice A1 l1.length c1),(3,.P b3_),(6,.P b4_),(7,.P b6_),(8,.P b28_),(9,.slice (OA ro51_) xs52_.length (OC ro51_)),(47,.I (l1.length:Int)),(48,.I x101_)]) (fun (k,x101_)=>[.f (KC k53 A41_ c42_ t39_),OE 41 ro51_,.b b28_ (.cells #[.slice A26_ t24_.length c27_] 24 (0,0)),.f (KU A26_ c27_ t24_),.b b6_ (.cells (cfB p0 p1 p2 p3 p4 p5 p6 A1 l1.length c1) 104 (0,0)),.b b4_ (.cells #[.bool false] 4 (0,0)),.b b3_ (.cells (cfA p0 p1 p2 p3 p4 p5 p6) 23 (0,0)),.f (DefOK []),.f (KU A1 c1 l1),.f (KC (Kd.slice 53 k53) A2 c2 l2)]) (k0_,0) [0,1,2,3,4,5,6,7,8,9] rfl H (subF_spec ⟨rfl,rfl,rfl,rfl,rfl,rfl,rfl,rfl,trivial⟩) rfl (by decide) ?_
 rintro ⟨k1_,x101_⟩ hs116_
 clear H
 have H:shape_Rest.l1 k1_ p0 p1 p2 p3 p4 p5 p6 l1 t24_ xs52_ x101_=some r0:=hs116_
 try clear hs116_
 rcases k1_ with _ | k1_
 exact none_no (show none=_ from H)
 unfold shape_Rest.l1 at H
 have hko_1:k1_≤k1_:=Nat.le_refl _
 refine c_seq rfl ?_
 refine r_ordb (l:=[0]) rfl (by kernel_rfl) ?_
 refine sR rfl ?_
 refine sE rfl ?_
 rcases Bool.eq_false_or_eq_true (decide ((x101_:Int)<(l1.length:Int))) with h120_ | h120_
 replace H:=ite_y (dec_t h120_) H
 refine cT h120_ rfl ?_
 refine kQ rfl ?_
 refine c_seq rfl ?_
 refine c_block rfl ?_
 refine c_seq rfl ?_
 refine r_ordb (l:=[0,1]) rfl (by kernel_rfl) ?_
 refine sM rfl ?_
 refine sA rfl ?_
 refine sE rfl ?_
 refine r_ordb (l:=[0,1,2,3,4,5,6,7,8,9,10,11]) rfl (by kernel_rfl) ?_
 refine sV rfl (vLA (lfA p0 p1 p2 p3 p4 p5 p6) 6 Tryz.underlying23 SZ23 rfl) ?_
 refine sM rfl ?_
 obtain ⟨⟨t141_,t142_,t143_⟩,e144_,H⟩:=bind_s H
 refine s_e rfl rfl (eC [] #[.agg (cfA p0 p1 p2 p3 p4 p5 p6),.I x101_] Tryz.func73 (by decide) rfl (fun w ht=>plan_Where_con p0 p1 p2 p3 p4 p5 p6 x101_ t141_ t142_ t143_ e144_ w _)) ?_
 refine sV rfl (v_fld rfl Tryz.underlying139 rfl Tryz.underlying3 rfl rfl rfl) ?_
 refine sR rfl ?_
 refine sM rfl ?_
 rcases Bool.eq_false_or_eq_true ((t141_:Int) == 2) with h145_ | h145_
 replace H:=ite_y (ibeq_t h145_) H
 refine s_splitv (d:=56) (t:=(t141_:Int) == 2) rfl (fun _=>?_) (fun h146_=>absurd (h146_.symm.trans h145_) (by decide))
 refine sG rfl (vM rfl) ?_
 refine sG rfl (vM rfl) ?_
 obtain ⟨n147_,H⟩:=ite_no H
 refine sG rfl (v_iaK (i:=8) rfl Tryz.underlying24 SZ41 rfl rfl rfl rfl n147_ (dec_t h120_)) ?_
 refine sG rfl (v_ldK (v := .U (rd l1 x101_)) 0 8 rfl Tryz.underlying41 rfl rfl rfl rfl n147_ (dec_t h120_) (fun w K h=>h)) ?_
 refine sG rfl (vR rfl) ?_
 refine sP rfl ?_
 refine sQ ?_
 rcases Bool.eq_false_or_eq_true ((rd l1 x101_:Int) != 0) with h148_ | h148_
 replace H:=ite_n (ibne_t h148_) H
 refine cT h148_ rfl ?_
 refine c_seq rfl ?_
 refine r_ordb (l:=[0]) rfl (by kernel_rfl) ?_
 refine s_e rfl rfl (e_st 5 rfl rfl SZ4 rfl rfl rfl rfl (blt_lt rfl)) ?_
 refine sQ ?_
 refine c_ret rfl ?_
 refine q_block_ret ?_
 refine q_then_ret ?_
 refine q_then_ret ?_
 refine q_block_ret ?_
 refine q_then_ret ?_
 have e_:=Option.some.inj H
 subst e_
 exact q_retD (Ds:=[]) 7 rfl List.nodup_nil (fun _ h=>(by cases h)) [5] rfl (by decide) (cellsB.cons cellsB.nil) (.inl rfl) rfl (vs:=[.bool false]) (.cell 0 rfl Tryz.underlying4 rfl rfl rfl .nil) (hX)
 replace H:=ite_y (ibne_f h148_) H
 refine cF h148_ rfl ?_
 refine c_skip rfl ?_
 refine q_block ?_
 refine q_seq ?_
 refine r_ordb (l:=[0,1]) rfl (by kernel_rfl) ?_
 refine sR rfl ?_
 refine sM rfl ?_
 refine s_end ?_
 exact q_again (k1_,IntKind.wrap .i64 (x101_+1)) [0,1,2,3,4,5,6,7,8,9] H (Nat.lt_succ_of_le hko_1) (subF_spec ⟨rfl,rfl,rfl,rfl,rfl,rfl,rfl,rfl,trivial⟩) rfl (by decide)
 replace H:=ite_n (ibeq_f h145_) H
 refine s_splitv (d:=56) (t:=(t141_:Int) == 2) rfl (fun h151_=>absurd (h151_.symm.trans h145_) (by decide)) (fun _=>?_)
 refine sN rfl ?_
 refine sN rfl ?_
 refine sN rfl ?_
 refine sN rfl ?_
 refine sN rfl ?_
 refine sP rfl ?_
 refine sQ ?_
 refine c_cond0 rfl rfl ?_
 refine c_skip rfl ?_
 refine q_block ?_
 refine q_seq ?_
 refine r_ordb (l:=[0,1]) rfl (by kernel_rfl) ?_
 refine sR rfl ?_
 refine sM rfl ?_
 refine s_end ?_
 exact q_again (k1_,IntKind.wrap .i64 (x101_+1)) [0,1,2,3,4,5,6,7,8,9] H (Nat.lt_succ_of_le hko_1) (subF_spec ⟨rfl,rfl,rfl,rfl,rfl,rfl,rfl,rfl,trivial⟩) rfl (by decide)
 replace H:=ite_n (dec_f h120_) H
 refine cF h120_ rfl ?_
 refine c_exit (i:=2) rfl rfl ?_
 refine q_then_exit ?_
 refine q_then_exit ?_
 refine q_block_here rfl ?_
 refine q_seq ?_
 refine c_seq rfl ?_
 refine c_seq rfl ?_
 refine r_ordb (l:=[0,1,2]) rfl (by kernel_rfl) ?_
 refine sV rfl (vF Tryz.underlying23 SZ3 rfl) ?_
 refine sV rfl (vL 6 Tryz.underlying3 rfl) ?_
 refine sM rfl ?_
 refine sQ ?_
 refine c_block rfl ?_
 refine c_loopN (σ:=Nat × Int × List Nat) (fun (k,x187_,Ds2_)=>⟨142,dsL Ds2_⟩) (fun (k,x187_,Ds2_)=>shape_Rest.l2 k p0 p1 p2 p3 p4 p5 p6 l1 t24_ xs52_ x187_=some r0∧Ds2_.Nodup∧∀ E∈Ds2_,w0.heap.size≤E) (fun (k,x187_,Ds2_)=>k) (fun (k,x187_,Ds2_)=>[(3,.P b3_),(6,.P b4_),(7,.P b6_),(8,.P b28_),(9,.slice (OA ro51_) xs52_.length (OC ro51_)),(65,.I p3),(66,.I x187_)]) (fun (k,x187_,Ds2_)=>[.f (KC k53 A41_ c42_ t39_),OE 41 ro51_,.b b28_ (.cells #[.slice A26_ t24_.length c27_] 24 (0,0)),.f (KU A26_ c27_ t24_),.b b6_ (.cells (cfB p0 p1 p2 p3 p4 p5 p6 A1 l1.length c1) 104 (0,0)),.b b4_ (.cells #[.bool false] 4 (0,0)),.b b3_ (.cells (cfA p0 p1 p2 p3 p4 p5 p6) 23 (0,0)),.f (DefOK Ds2_),.f (KU A1 c1 l1),.f (KC (Kd.slice 53 k53) A2 c2 l2)]) (k1_,0,[]) [0,1,2,3,4,5,6,7,8,9] rfl rfl ⟨H,List.nodup_nil,(fun _ h=>(by cases h))⟩ (subF_spec ⟨rfl,rfl,rfl,rfl,rfl,rfl,rfl,trivial⟩) rfl (by decide) ?_
 rintro ⟨k2_,x187_,Ds2_⟩ hs222_
 clear H
 obtain ⟨H,hnd_Ds2_,hge_Ds2_⟩:shape_Rest.l2 k2_ p0 p1 p2 p3 p4 p5 p6 l1 t24_ xs52_ x187_=some r0∧Ds2_.Nodup∧∀ E∈Ds2_,w0.heap.size≤E:=hs222_
 try clear hs222_
 rcases k2_ with _ | k2_
 exact none_no (show none=_ from H)
 unfold shape_Rest.l2 at H
 have hko_2:k2_≤k2_:=Nat.le_refl _
 refine c_seq rfl ?_
 refine r_ordb (l:=[0]) rfl (by kernel_rfl) ?_
 refine sR rfl ?_
 refine sE rfl ?_
 rcases Bool.eq_false_or_eq_true (decide ((x187_:Int)<p3)) with h226_ | h226_
 replace H:=ite_y (dec_t h226_) H
 refine cT h226_ rfl ?_
 refine kQ rfl ?_
 refine c_seq rfl ?_
 refine c_block rfl ?_
 refine c_seq rfl ?_
 refine r_ordb (l:=[0,1]) rfl (by kernel_rfl) ?_
 refine sM rfl ?_
 refine sA rfl ?_
 refine sE rfl ?_
 refine r_ordb (l:=[0,1,2]) rfl (by kernel_rfl) ?_
 refine sV rfl (vLA [.I p0,.I p1,.I p2,.I p3,.I p4,.I p5,.I p6,.slice A1 l1.length c1] 4 Tryz.underlying104 SZ104 rfl) ?_
 refine sM rfl ?_
 refine s_e rfl rfl (eC [] #[.agg (cfB p0 p1 p2 p3 p4 p5 p6 A1 l1.length c1),.I x187_] Tryz.func60 (by decide) rfl (fun w ht=>level_con p0 p1 p2 p3 p4 p5 p6 A1 l1.length c1 x187_ w _)) ?_
 intro b230_ b231_
 refine sQ ?_
 refine c_block rfl ?_
 obtain ⟨n232_,H⟩:=ite_no H
 obtain ⟨n233_,H⟩:=ite_no H
 obtain ⟨κ_,hκ_,H⟩:=rng_intro H
 refine c_rangeD (N:=(lvlF p0 p1 p2 p3 p4 p5 p6 l1 x187_).length) (S:=fun ys=>ys=(lvlF p0 p1 p2 p3 p4 p5 p6 l1 x187_).attach) (Sp:=fun pre=>pre <+: (lvlF p0 p1 p2 p3 p4 p5 p6 l1 x187_).attach) (fun x:{p:Int × Int // p∈(lvlF p0 p1 p2 p3 p4 p5 p6 l1 x187_)}=>#[Value.I x.1.1,Value.U x.1.2]) (gf:=98) (lb:=[.P b230_,.P b231_]) (ps:=#[72,73]) [7] [0,1,2,3,4,5,6,8,9,10,11] (fun pre (s_:Unit)=>match s_ with | _=>(pre <+: (lvlF p0 p1 p2 p3 p4 p5 p6 l1 x187_).attach→rng (shape_Rest.b3 k2_ p0 p1 p2 p3 p4 p5 p6 l1 t24_) ((lvlF p0 p1 p2 p3 p4 p5 p6 l1 x187_).drop pre.length) κ_ ()=some r0)) (fun pre c_ (s_:Unit)=>match s_ with | _=>c_ = .ret∧(pre <+: (lvlF p0 p1 p2 p3 p4 p5 p6 l1 x187_).attach→false=r0)) (fun s_:Unit=>match s_ with | _=>[.b b4_ (.cells #[.bool false] 4 (0,0))]) (fun x=>[(15,.U x.1.2),(73,.U x.1.2),(72,.I x.1.1)]) () rfl rfl rfl (fun _=>rfl) (by decide) Tryz.func98 rfl (by decide) rfl rfl (by decide) ?_ (fun _=>H) rfl ?_ ?_ ?_ ?_ ?_
 rintro _ e he
 simp only [List.mem_cons,List.not_mem_nil,or_false] at he
 rcases he with rfl
 exact .inl ⟨_,_,_,rfl⟩
 intro w ht
 refine lvl_stops _ (by decide) b230_ b231_ _ p0 p1 p2 p3 p4 p5 p6 A1 c1 l1 x187_ n232_ w (ht.at_ _ _ (List.mem_of_getElem? (i:=0) rfl)) (ht.at_ _ _ (List.mem_of_getElem? (i:=1) rfl)) ?_ ?_ ((ht.facts _ (List.mem_of_getElem? (i:=10) rfl)).mono ?_)
 exact tri_disj ht (i:=0) rfl (idx:=[7]) rfl (by decide)
 exact tri_disj ht (i:=1) rfl (idx:=[7]) rfl (by decide)
 exact fun x hx _=>List.mem_append_right _ (pick_ids (idx:=[7]) rfl x hx)
 rintro lv_ ⟨⟨x234_,x235_⟩,hx_⟩ a_ W_ K_ hf_ hk_
 refine assign_one (F1:=[(15,.U x235_),(73,.U x235_),(72,.I x234_)] ++ _) (fr_params2 hf_ rfl rfl) hk_ ?_
 refine r_ordb (l:=[0]) rfl (by kernel_rfl) ?_
 refine sA rfl ?_
 refine s_end ?_
 exact q_assigned (fun _ _ h=>h)
 rintro lv_ pre_ ⟨⟨x234_,x235_⟩,hx_⟩ _ W_ hI_ hlen_
 clear H
 obtain ⟨κ2_,r2_,H,hk_,hr_⟩:=rng_step (shape_Rest_tot3 k2_ p0 p1 p2 p3 p4 p5 p6 l1 t24_ n233_ n232_ (by assumption) (by assumption) (by assumption) r0) pre_ ⟨(x234_,x235_),hx_⟩ () trivial hI_
 unfold shape_Rest.b3 at H
 refine c_block rfl ?_
 obtain ⟨j253_,e254_,H⟩:=bind_s H
 refine c_join (β:=Unit) (fun _=>True) (fun _=>[(6,.P b4_),(83,.bool j253_)]) (fun _=>[.b b4_ (.cells #[.bool false] 4 (0,0)),.f (fun w=>w.heap[b230_]?=some (.cells (cfB p0 p1 p2 p3 p4 p5 p6 A1 l1.length c1) 104 (0,0))),.f (fun w=>w.heap[b231_]?=some (.cells #[.I x187_] 3 (0,0))),.f (KC k53 A41_ c42_ t39_),toFact (OE 41 ro51_),.f (fun w=>w.heap[b28_]?=some (.cells #[.slice A26_ t24_.length c27_] 24 (0,0))),.f (KU A26_ c27_ t24_),.f (fun w=>w.heap[b6_]?=some (.cells (cfB p0 p1 p2 p3 p4 p5 p6 A1 l1.length c1) 104 (0,0))),.f (fun w=>w.heap[b3_]?=some (.cells (cfA p0 p1 p2 p3 p4 p5 p6) 23 (0,0))),.f (DefOK Ds2_),.f (KU A1 c1 l1),.f (KC (Kd.slice 53 k53) A2 c2 l2)]) rfl (fun _ _=>?_) (fun J_=>?_)
 rcases Bool.eq_false_or_eq_true j253_ with h255_ | h255_
 subst h255_
 replace H:=ite_y rfl H
 refine c_cond1 rfl rfl ?_
 refine c_seq rfl ?_
 refine r_ordb (l:=[0]) rfl (by kernel_rfl) ?_
 refine s_e rfl rfl (e_st 0 rfl rfl SZ4 rfl rfl rfl rfl (blt_lt rfl)) ?_
 refine sQ ?_
 refine c_ret rfl ?_
 refine q_block_ret ?_
 exact q_round_ret () [0] rfl rfl (by decide) ⟨rfl,fun h=>(Option.some.inj H).trans (hr_ h)⟩
 subst h255_
 replace H:=ite_n (by decide) H
 refine c_cond0 rfl rfl ?_
 refine c_skip rfl ?_
 refine q_block ?_
 exact q_round () [0] rfl rfl (by decide) (hk_ _ H)
 clear H
 have H:=e254_
 clear e254_
 refine r_ordb (l:=[0,1,2,3,4,5,6,7,8,9]) rfl (by kernel_rfl) ?_
 refine sV rfl (v_ldr 5 rfl Tryz.underlying24 rfl rfl rfl rfl) ?_
 refine sM rfl ?_
 obtain ⟨t256_,e257_,H⟩:=bind_s H
 refine s_e rfl rfl (eC [6] #[.slice A26_ t24_.length c27_,.U x235_] Tryz.func64 (by decide) rfl (fun w ht=>slices_Contains_uint64_uint64_con _ A26_ c27_ t24_ x235_ t256_ e257_ w _)) ?_
 refine sV rfl (v_not rfl rfl) ?_
 refine sM rfl ?_
 rcases Bool.eq_false_or_eq_true (!t256_) with h258_ | h258_
 replace H:=ite_n (not_t (bnot_t h258_)) H
 refine s_splitv (d:=78) (t:=!t256_) rfl (fun _=>?_) (fun h259_=>absurd (h259_.symm.trans h258_) (by decide))
 refine sN rfl ?_
 refine sN rfl ?_
 refine sN rfl ?_
 refine sN rfl ?_
 refine sP rfl ?_
 refine s_end ?_
 have hq_0:=Option.some.inj H
 subst hq_0
 exact q_seq (c_frame (subF_spec (by exact ⟨rfl,rfl,trivial⟩)) (c_take [0,1,2,3,4,5,6,7,8,9,10,11] rfl (by decide) (J_ () trivial)))
 replace H:=ite_y (bnot_f h258_) H
 refine s_splitv (d:=78) (t:=!t256_) rfl (fun h260_=>absurd (h260_.symm.trans h258_) (by decide)) (fun _=>?_)
 refine sG rfl (v_ldAr [.I p0,.I p1,.I p2,.I p3,.I p4,.I p5,.I p6,.slice A1 l1.length c1] 7 rfl Tryz.underlying104 rfl SZ104 rfl rfl rfl rfl) ?_
 refine sG rfl (vM rfl) ?_
 obtain ⟨t261_,e262_,H⟩:=bind_s H
 refine s_eg rfl rfl (eC [10] #[.agg (cfB p0 p1 p2 p3 p4 p5 p6 A1 l1.length c1),.U x235_] Tryz.func74 (by decide) rfl (fun w ht=>sw_settled_con _ p0 p1 p2 p3 p4 p5 p6 A1 c1 l1 x235_ t261_ e262_ w _)) ?_
 refine sG rfl (v_not rfl rfl) ?_
 refine sP rfl ?_
 refine s_end ?_
 have hq_0:=Option.some.inj H
 subst hq_0
 exact q_seq (c_frame (subF_spec (by exact ⟨rfl,rfl,trivial⟩)) (c_take [0,1,2,3,4,5,6,7,8,9,10,11] rfl (by decide) (J_ () trivial)))
 rintro D263_ ys_ _ hD_ hS_ hI_
 subst hS_
 have H:=(hκ_ _).symm.trans (rng_done hI_)
 obtain ⟨hndD263_,hgeD263_⟩:=fresh_D 9 rfl hD_ hnd_Ds2_ hge_Ds2_
 refine q_give [0,1,2,3,4,5,6,7,8,9,10,11,12] rfl (by decide) (by simp [ids,Ent.id?]) (fun w h=>h) ?_
 refine q_both 0 10 rfl rfl ?_
 refine q_weak 0 rfl (fun w h=>DefOK.cons h) ?_
 refine q_block ?_
 refine q_block ?_
 refine q_seq ?_
 refine r_ordb (l:=[0,1]) rfl (by kernel_rfl) ?_
 refine sR rfl ?_
 refine sM rfl ?_
 refine s_end ?_
 exact q_againN (k2_,IntKind.wrap .i64 (x187_+1),(D263_ :: Ds2_)) [6,7,8,9,10,3,11,0,13,14] rfl ⟨H,hndD263_,hgeD263_⟩ (Nat.lt_succ_of_le hko_2) (subF_spec ⟨rfl,rfl,rfl,rfl,rfl,rfl,rfl,trivial⟩) rfl (by decide)
 rintro D263_ c_ pre_ _ hD_ hS_ hI_
 obtain ⟨rfl,hres_⟩:=hI_
 have hres_:=hres_ hS_
 refine c_ret rfl ?_
 obtain ⟨hndD263_,hgeD263_⟩:=fresh_D 9 rfl hD_ hnd_Ds2_ hge_Ds2_
 refine q_give [0,1,2,3,4,5,6,7,8,9,10,11,12] rfl (by decide) (by simp [ids,Ent.id?]) (fun w h=>h) ?_
 refine q_both 0 10 rfl rfl ?_
 refine q_weak 0 rfl (fun w h=>DefOK.cons h) ?_
 refine q_block_ret ?_
 refine q_block_ret ?_
 refine q_then_ret ?_
 refine q_then_ret ?_
 refine q_block_ret ?_
 refine q_then_ret ?_
 subst hres_
 exact q_retD (Ds:=(D263_ :: Ds2_)) 0 rfl hndD263_ hgeD263_ [3] rfl (by decide) (cellsB.cons cellsB.nil) (.inl rfl) rfl (vs:=[.bool false]) (.cell 0 rfl Tryz.underlying4 rfl rfl rfl .nil) (hX)
 replace H:=ite_n (dec_f h226_) H
 refine cF h226_ rfl ?_
 refine c_exit (i:=4) rfl rfl ?_
 refine q_then_exit ?_
 refine q_then_exit ?_
 refine q_block_here rfl ?_
 refine q_seq ?_
 refine c_seq rfl ?_
 refine r_ordb (l:=[0,1,2,3,4]) rfl (by kernel_rfl) ?_
 refine sV rfl (vF Tryz.underlying23 SZ3 rfl) ?_
 refine sV rfl (vL 6 Tryz.underlying3 rfl) ?_
 refine sR rfl ?_
 obtain ⟨n273_,H⟩:=ite_no H
 obtain ⟨n274_,H⟩:=ite_no H
 refine s_e rfl rfl (e_makeI (kk := .i64) (bytes:=8) rfl rfl rfl Tryz.underlying141 (by kernel_rfl) rfl rfl n273_ (by omega) (by simp only [maxLen]; omega)) ?_
 intro b275_
 have mh276_:(Int.toNat (IntKind.wrap .i64 (p2+1)))≤maxLen:=by simp only [maxLen]; omega
 refine sA rfl ?_
 refine sE rfl ?_
 refine c_seq rfl ?_
 refine r_ordb (l:=[0,1,2]) rfl (by kernel_rfl) ?_
 refine sM rfl ?_
 refine sV rfl (v_len rfl rfl rfl Tryz.underlying24 rfl rfl) ?_
 refine sM rfl ?_
 refine sQ ?_
 refine c_block rfl ?_
 refine c_giveO (flat_int .u64) hr53_ [2,0,1,3,4,5,6,7,8,9,10] rfl (by decide) rfl ?_
 refine c_loop (σ:=Nat × Int × List Int) (fun (k,x313_,xs314_)=>shape_Rest.l4 k p0 p1 p2 p3 p4 p5 p6 l1 xs52_ x313_ xs314_=some r0∧xs314_.length=(Int.toNat (IntKind.wrap .i64 (p2+1)))) (fun (k,x313_,xs314_)=>k) (fun (k,x313_,xs314_)=>[(3,.P b3_),(6,.P b4_),(7,.P b6_),(16,.slice (some ⟨b275_,0,none⟩) (Int.toNat (IntKind.wrap .i64 (p2+1))) (Int.toNat (IntKind.wrap .i64 (p2+1)))),(89,.slice (OA ro51_) xs52_.length (OC ro51_)),(90,.I (xs52_.length:Int)),(91,.I x313_)]) (fun (k,x313_,xs314_)=>[.f (KU (OA ro51_) (OC ro51_) xs52_),.b b275_ (.cells (RowI .i64 xs314_ ([])) 3 (0,0)),.f (KC k53 A41_ c42_ t39_),.b b28_ (.cells #[.slice A26_ t24_.length c27_] 24 (0,0)),.f (KU A26_ c27_ t24_),.b b6_ (.cells (cfB p0 p1 p2 p3 p4 p5 p6 A1 l1.length c1) 104 (0,0)),.b b4_ (.cells #[.bool false] 4 (0,0)),.b b3_ (.cells (cfA p0 p1 p2 p3 p4 p5 p6) 23 (0,0)),.f (DefOK Ds2_),.f (KU A1 c1 l1),.f (KC (Kd.slice 53 k53) A2 c2 l2)]) (k2_,0,(List.replicate (Int.toNat (IntKind.wrap .i64 (p2+1))) (0:Int))) [0,1,2,3,4,5,6,7,8,9,10] rfl ⟨H,List.length_replicate⟩ (subF_spec ⟨rfl,rfl,rfl,rfl,rfl,rfl,rfl,trivial⟩) rfl (by decide) ?_
 rintro ⟨k4_,x313_,xs314_⟩ hs334_
 clear H
 obtain ⟨H,lh_xs314_⟩:shape_Rest.l4 k4_ p0 p1 p2 p3 p4 p5 p6 l1 xs52_ x313_ xs314_=some r0∧xs314_.length=(Int.toNat (IntKind.wrap .i64 (p2+1))):=hs334_
 try clear hs334_
 rcases k4_ with _ | k4_
 exact none_no (show none=_ from H)
 unfold shape_Rest.l4 at H
 have hko_4:k4_≤k4_:=Nat.le_refl _
 refine c_seq rfl ?_
 refine r_ordb (l:=[0]) rfl (by kernel_rfl) ?_
 refine sR rfl ?_
 refine sE rfl ?_
 rcases Bool.eq_false_or_eq_true (decide ((x313_:Int)<(xs52_.length:Int))) with h338_ | h338_
 replace H:=ite_y (dec_t h338_) H
 refine cT h338_ rfl ?_
 refine kQ rfl ?_
 refine c_seq rfl ?_
 refine c_block rfl ?_
 refine c_seq rfl ?_
 refine r_ordb (l:=[0,1,2]) rfl (by kernel_rfl) ?_
 obtain ⟨n357_,H⟩:=ite_no H
 refine sV rfl (v_iaK (i:=0) rfl Tryz.underlying24 SZ41 rfl rfl rfl rfl n357_ (dec_t h338_)) ?_
 refine sV rfl (v_ldK (v := .U (rd xs52_ x313_)) 0 0 rfl Tryz.underlying41 rfl rfl rfl rfl n357_ (dec_t h338_) (fun w K h=>h)) ?_
 refine sA rfl ?_
 refine sE rfl ?_
 obtain ⟨⟨j381_,j382_,j383_,j384_,j385_,j386_⟩,e387_,H⟩:=bind_s H
 refine c_join (β:=Unit) (fun _=>True) (fun _=>[(3,.P b3_),(6,.P b4_),(7,.P b6_),(16,.slice (some ⟨b275_,0,none⟩) (Int.toNat (IntKind.wrap .i64 (p2+1))) (Int.toNat (IntKind.wrap .i64 (p2+1)))),(89,.slice (OA ro51_) xs52_.length (OC ro51_)),(90,.I (xs52_.length:Int)),(91,.I x313_),(92,.bool (decide ((x313_:Int)<(xs52_.length:Int)))),(93,.pointer (some (at0 (OA ro51_) x313_ 1))),(94,.U (rd xs52_ x313_)),(18,.U (rd xs52_ x313_)),(95,.agg (cfB p0 p1 p2 p3 p4 p5 p6 A1 l1.length c1)),(96,.U (rd xs52_ x313_)),(97,.bool j381_),(98,.bool j382_),(99,.bool j383_),(102,.bool j384_),(103,.bool j385_),(108,.bool j386_)]) (fun _=>[.f (KU (OA ro51_) (OC ro51_) xs52_),.b b275_ (.cells (RowI .i64 xs314_ ([])) 3 (0,0)),.f (KC k53 A41_ c42_ t39_),.b b28_ (.cells #[.slice A26_ t24_.length c27_] 24 (0,0)),.f (KU A26_ c27_ t24_),.b b6_ (.cells (cfB p0 p1 p2 p3 p4 p5 p6 A1 l1.length c1) 104 (0,0)),.b b4_ (.cells #[.bool false] 4 (0,0)),.b b3_ (.cells (cfA p0 p1 p2 p3 p4 p5 p6) 23 (0,0)),.f (DefOK Ds2_),.f (KU A1 c1 l1),.f (KC (Kd.slice 53 k53) A2 c2 l2)]) rfl (fun _ _=>?_) (fun J_=>?_)
 rcases Bool.eq_false_or_eq_true j386_ with h388_ | h388_
 subst h388_
 replace H:=ite_y rfl H
 refine c_cond1 rfl rfl ?_
 refine c_seq rfl ?_
 refine r_ordb (l:=[0]) rfl (by kernel_rfl) ?_
 refine s_e rfl rfl (e_st 6 rfl rfl SZ4 rfl rfl rfl rfl (blt_lt rfl)) ?_
 refine sQ ?_
 refine c_ret rfl ?_
 refine q_then_ret ?_
 refine q_block_ret ?_
 refine q_then_ret ?_
 refine q_then_ret ?_
 refine q_block_ret ?_
 refine q_then_ret ?_
 have e_:=Option.some.inj H
 subst e_
 exact q_retD (Ds:=Ds2_) 8 rfl hnd_Ds2_ hge_Ds2_ [6] rfl (by decide) (cellsB.cons cellsB.nil) (.inl rfl) rfl (vs:=[.bool false]) (.cell 0 rfl Tryz.underlying4 rfl rfl rfl .nil) (hX)
 subst h388_
 replace H:=ite_n (by decide) H
 refine c_cond0 rfl rfl ?_
 refine kQ rfl ?_
 refine r_ordb (l:=[0,1,2,3,4,5,6,7]) rfl (by kernel_rfl) ?_
 refine sM rfl ?_
 refine sM rfl ?_
 refine s_e rfl rfl (eC [] #[.U (rd xs52_ x313_)] Tryz.func30 (by decide) rfl (fun w ht=>handle_Index_con (rd xs52_ x313_) w _)) ?_
 obtain ⟨n389_,H⟩:=ite_no H
 obtain ⟨n390_,H⟩:=ite_no H
 refine sV rfl (v_iaI rfl Tryz.underlying141 SZ3 rfl rfl n389_ n390_) ?_
 refine sV rfl (v_ldI 1 rfl Tryz.underlying3 rfl rfl rfl n389_ (lt_lh lh_xs314_ n390_)) ?_
 refine sR rfl ?_
 refine sV rfl (v_iaI rfl Tryz.underlying141 SZ3 rfl rfl n389_ n390_) ?_
 refine s_e rfl rfl (e_stI 1 rfl rfl SZ3 rfl rfl rfl n389_ (lt_lh lh_xs314_ n390_)) ?_
 refine s_end ?_
 refine q_block ?_
 refine q_seq ?_
 refine r_ordb (l:=[0,1]) rfl (by kernel_rfl) ?_
 refine sR rfl ?_
 refine sM rfl ?_
 refine s_end ?_
 exact q_again (k4_,IntKind.wrap .i64 (x313_+1),(xs314_.set (Int.toNat ((rd xs52_ x313_) % 4294967296)) (IntKind.wrap .i64 ((rd xs314_ ((rd xs52_ x313_) % 4294967296))+1)))) [0,1,2,3,4,5,6,7,8,9,10] ⟨H,(lh_set lh_xs314_)⟩ (Nat.lt_succ_of_le hko_4) (subF_spec ⟨rfl,rfl,rfl,rfl,rfl,rfl,rfl,trivial⟩) rfl (by decide)
 clear H
 have H:=e387_
 clear e387_
 refine r_ordb (l:=[0,1,2,3,4,5,6,7,8,9,10,11,12,13]) rfl (by kernel_rfl) ?_
 refine sV rfl (vLA [.I p0,.I p1,.I p2,.I p3,.I p4,.I p5,.I p6,.slice A1 l1.length c1] 5 Tryz.underlying104 SZ104 rfl) ?_
 refine sM rfl ?_
 obtain ⟨t391_,e392_,H⟩:=bind_s H
 refine s_e rfl rfl (eC [9] #[.agg (cfB p0 p1 p2 p3 p4 p5 p6 A1 l1.length c1),.U (rd xs52_ x313_)] Tryz.func75 (by decide) rfl (fun w ht=>sw_names_con p0 p1 p2 p3 p4 p5 p6 A1 c1 l1 (rd xs52_ x313_) t391_ e392_ w _)) ?_
 refine sV rfl (v_not rfl rfl) ?_
 refine sM rfl ?_
 rcases Bool.eq_false_or_eq_true (!t391_) with h393_ | h393_
 replace H:=ite_n (not_t (bnot_t h393_)) H
 refine s_splitv (d:=99) (t:=!t391_) rfl (fun _=>?_) (fun h394_=>absurd (h394_.symm.trans h393_) (by decide))
 refine sN rfl ?_
 refine sN rfl ?_
 refine sP rfl ?_
 refine sM rfl ?_
 refine sN rfl ?_
 refine sN rfl ?_
 refine sN rfl ?_
 refine sN rfl ?_
 refine sP rfl ?_
 refine s_end ?_
 have hq_0:=Option.some.inj H
 obtain ⟨ee_0,hq_1⟩:=Prod.mk.inj hq_0
 obtain ⟨ee_1,hq_2⟩:=Prod.mk.inj hq_1
 obtain ⟨ee_2,hq_3⟩:=Prod.mk.inj hq_2
 obtain ⟨ee_3,hq_4⟩:=Prod.mk.inj hq_3
 obtain ⟨ee_4,hq_5⟩:=Prod.mk.inj hq_4
 subst ee_0
 subst ee_1
 subst ee_2
 subst ee_3
 subst ee_4
 subst hq_5
 exact q_seq (c_frame (subF_spec (by exact ⟨rfl,rfl,rfl,rfl,rfl,rfl,rfl,rfl,rfl,rfl,rfl,rfl,rfl,rfl,rfl,rfl,rfl,rfl,rfl,trivial⟩)) (c_take [0,1,2,3,4,5,6,7,8,9,10] rfl (by decide) (J_ () trivial)))
 replace H:=ite_y (bnot_f h393_) H
 refine s_splitv (d:=99) (t:=!t391_) rfl (fun h395_=>absurd (h395_.symm.trans h393_) (by decide)) (fun _=>?_)
 refine sG rfl (vM rfl) ?_
 obtain ⟨t396_,e397_,H⟩:=bind_s H
 refine s_eg rfl rfl (eC [] #[.U (rd xs52_ x313_)] Tryz.func76 (by decide) rfl (fun w ht=>handle_Marked_con (rd xs52_ x313_) t396_ e397_ w _)) ?_
 refine sP rfl ?_
 refine sM rfl ?_
 rcases Bool.eq_false_or_eq_true t396_ with h398_ | h398_
 subst h398_
 replace H:=ite_y rfl H
 refine sN rfl ?_
 refine sN rfl ?_
 refine sN rfl ?_
 refine sN rfl ?_
 refine sP rfl ?_
 refine s_end ?_
 have hq_0:=Option.some.inj H
 obtain ⟨ee_0,hq_1⟩:=Prod.mk.inj hq_0
 obtain ⟨ee_1,hq_2⟩:=Prod.mk.inj hq_1
 obtain ⟨ee_2,hq_3⟩:=Prod.mk.inj hq_2
 obtain ⟨ee_3,hq_4⟩:=Prod.mk.inj hq_3
 obtain ⟨ee_4,hq_5⟩:=Prod.mk.inj hq_4
 subst ee_0
 subst ee_1
 subst ee_2
 subst ee_3
 subst ee_4
 subst hq_5
 exact q_seq (c_frame (subF_spec (by exact ⟨rfl,rfl,rfl,rfl,rfl,rfl,rfl,rfl,rfl,rfl,rfl,rfl,rfl,rfl,rfl,rfl,rfl,rfl,rfl,trivial⟩)) (c_take [0,1,2,3,4,5,6,7,8,9,10] rfl (by decide) (J_ () trivial)))
 subst h398_
 replace H:=ite_n (by decide) H
 refine sG rfl (vLA [.I p0,.I p1,.I p2,.I p3,.I p4,.I p5,.I p6,.slice A1 l1.length c1] 5 Tryz.underlying104 SZ104 rfl) ?_
 refine sG rfl (vM rfl) ?_
 obtain ⟨t399_,e400_,H⟩:=bind_s H
 refine s_eg rfl rfl (eC [9] #[.agg (cfB p0 p1 p2 p3 p4 p5 p6 A1 l1.length c1),.U (rd xs52_ x313_)] Tryz.func77 (by decide) rfl (fun w ht=>sw_taken_con p0 p1 p2 p3 p4 p5 p6 A1 c1 l1 (rd xs52_ x313_) t399_ e400_ w _)) ?_
 refine sG rfl (v_not rfl rfl) ?_
 refine sP rfl ?_
 refine s_end ?_
 have hq_0:=Option.some.inj H
 obtain ⟨ee_0,hq_1⟩:=Prod.mk.inj hq_0
 obtain ⟨ee_1,hq_2⟩:=Prod.mk.inj hq_1
 obtain ⟨ee_2,hq_3⟩:=Prod.mk.inj hq_2
 obtain ⟨ee_3,hq_4⟩:=Prod.mk.inj hq_3
 obtain ⟨ee_4,hq_5⟩:=Prod.mk.inj hq_4
 subst ee_0
 subst ee_1
 subst ee_2
 subst ee_3
 subst ee_4
 subst hq_5
 exact q_seq (c_frame (subF_spec (by exact ⟨rfl,rfl,rfl,rfl,rfl,rfl,rfl,rfl,rfl,rfl,rfl,rfl,rfl,rfl,rfl,rfl,rfl,rfl,rfl,trivial⟩)) (c_take [0,1,2,3,4,5,6,7,8,9,10] rfl (by decide) (J_ () trivial)))
 replace H:=ite_n (dec_f h338_) H
 refine cF h338_ rfl ?_
 refine c_exit (i:=8) rfl rfl ?_
 refine q_then_exit ?_
 refine q_then_exit ?_
 refine q_block_here rfl ?_
 refine q_seq ?_
 refine c_seq rfl ?_
 refine c_seq rfl ?_
 refine r_ordb (l:=[0]) rfl (by kernel_rfl) ?_
 refine sA rfl ?_
 refine sQ ?_
 refine c_block rfl ?_
 refine c_loop (σ:=Nat × Int) (fun (k,x416_)=>shape_Rest.l5 k p0 p1 p2 p3 p4 p5 p6 l1 xs314_ x416_=some r0) (fun (k,x416_)=>k) (fun (k,x416_)=>[(3,.P b3_),(6,.P b4_),(7,.P b6_),(16,.slice (some ⟨b275_,0,none⟩) (Int.toNat (IntKind.wrap .i64 (p2+1))) (Int.toNat (IntKind.wrap .i64 (p2+1)))),(19,.I x416_)]) (fun (k,x416_)=>[.f (KU (OA ro51_) (OC ro51_) xs52_),.b b275_ (.cells (RowI .i64 xs314_ ([])) 3 (0,0)),.f (KC k53 A41_ c42_ t39_),.b b28_ (.cells #[.slice A26_ t24_.length c27_] 24 (0,0)),.f (KU A26_ c27_ t24_),.b b6_ (.cells (cfB p0 p1 p2 p3 p4 p5 p6 A1 l1.length c1) 104 (0,0)),.b b4_ (.cells #[.bool false] 4 (0,0)),.b b3_ (.cells (cfA p0 p1 p2 p3 p4 p5 p6) 23 (0,0)),.f (DefOK Ds2_),.f (KU A1 c1 l1),.f (KC (Kd.slice 53 k53) A2 c2 l2)]) (k4_,1) [0,1,2,3,4,5,6,7,8,9,10] rfl H (subF_spec ⟨rfl,rfl,rfl,rfl,rfl,trivial⟩) rfl (by decide) ?_
 rintro ⟨k5_,x416_⟩ hs432_
 clear H
 have H:shape_Rest.l5 k5_ p0 p1 p2 p3 p4 p5 p6 l1 xs314_ x416_=some r0:=hs432_
 try clear hs432_
 rcases k5_ with _ | k5_
 exact none_no (show none=_ from H)
 unfold shape_Rest.l5 at H
 have hko_5:k5_≤k5_:=Nat.le_refl _
 refine c_seq rfl ?_
 refine c_seq rfl ?_
 refine r_ordb (l:=[0,1,2,3]) rfl (by kernel_rfl) ?_
 refine sM rfl ?_
 refine sV rfl (vF Tryz.underlying23 SZ3 rfl) ?_
 refine sV rfl (vL 7 Tryz.underlying3 rfl) ?_
 refine sR rfl ?_
 refine sQ ?_
 rcases Bool.eq_false_or_eq_true (decide ((x416_:Int)≤p2)) with h436_ | h436_
 replace H:=ite_y (dec_t h436_) H
 refine cT h436_ rfl ?_
 refine kQ rfl ?_
 refine c_seq rfl ?_
 refine c_block rfl ?_
 refine c_seq rfl ?_
 refine r_ordb (l:=[0,1,2,3,4,5]) rfl (by kernel_rfl) ?_
 refine sV rfl (vLA [.I p0,.I p1,.I p2,.I p3,.I p4,.I p5,.I p6,.slice A1 l1.length c1] 5 Tryz.underlying104 SZ104 rfl) ?_
 refine sM rfl ?_
 obtain ⟨t454_,e455_,H⟩:=bind_s H
 refine s_e rfl rfl (eC [9] #[.agg (cfB p0 p1 p2 p3 p4 p5 p6 A1 l1.length c1),.I x416_,.I 0] Tryz.func78 (by decide) rfl (fun w ht=>sw_at_con p0 p1 p2 p3 p4 p5 p6 A1 c1 l1 x416_ 0 t454_ e455_ w _)) ?_
 obtain ⟨t456_,e457_,H⟩:=bind_s H
 refine s_e rfl rfl (eC [] #[.U t454_] Tryz.func31 (by decide) rfl (fun w ht=>slot_State_con t454_ t456_ e457_ w _)) ?_
 refine sR rfl ?_
 refine sA rfl ?_
 refine sQ ?_
 obtain ⟨⟨j463_,j464_⟩,e465_,H⟩:=bind_s H
 refine c_join (β:=Unit) (fun _=>True) (fun _=>[(3,.P b3_),(6,.P b4_),(7,.P b6_),(16,.slice (some ⟨b275_,0,none⟩) (Int.toNat (IntKind.wrap .i64 (p2+1))) (Int.toNat (IntKind.wrap .i64 (p2+1)))),(19,.I x416_),(117,.I x416_),(118,.pointer (some ⟨b3_,2,none⟩)),(119,.I p2),(120,.bool (decide ((x416_:Int)≤p2))),(123,.agg (cfB p0 p1 p2 p3 p4 p5 p6 A1 l1.length c1)),(124,.I x416_),(125,.U t454_),(126,.I t456_),(127,.bool ((t456_:Int) == 1)),(20,.bool ((t456_:Int) == 1)),(128,.slice (some ⟨b275_,0,none⟩) (Int.toNat (IntKind.wrap .i64 (p2+1))) (Int.toNat (IntKind.wrap .i64 (p2+1)))),(129,.I x416_),(130,.pointer (some ⟨b275_,Int.toNat x416_,none⟩)),(131,.I (rd xs314_ x416_)),(132,.bool (decide ((rd xs314_ x416_:Int) > 1))),(133,.bool j463_),(141,.bool j464_)]) (fun _=>[.f (KU (OA ro51_) (OC ro51_) xs52_),.b b275_ (.cells (RowI .i64 xs314_ ([])) 3 (0,0)),.f (KC k53 A41_ c42_ t39_),.b b28_ (.cells #[.slice A26_ t24_.length c27_] 24 (0,0)),.f (KU A26_ c27_ t24_),.b b6_ (.cells (cfB p0 p1 p2 p3 p4 p5 p6 A1 l1.length c1) 104 (0,0)),.b b4_ (.cells #[.bool false] 4 (0,0)),.b b3_ (.cells (cfA p0 p1 p2 p3 p4 p5 p6) 23 (0,0)),.f (DefOK Ds2_),.f (KU A1 c1 l1),.f (KC (Kd.slice 53 k53) A2 c2 l2)]) rfl (fun _ _=>?_) (fun J_=>?_)
 rcases Bool.eq_false_or_eq_true j464_ with h466_ | h466_
 subst h466_
 replace H:=ite_y rfl H
 refine c_cond1 rfl rfl ?_
 refine c_seq rfl ?_
 refine r_ordb (l:=[0]) rfl (by kernel_rfl) ?_
 refine s_e rfl rfl (e_st 6 rfl rfl SZ4 rfl rfl rfl rfl (blt_lt rfl)) ?_
 refine sQ ?_
 refine c_ret rfl ?_
 refine q_block_ret ?_
 refine q_then_ret ?_
 refine q_then_ret ?_
 refine q_block_ret ?_
 refine q_then_ret ?_
 have e_:=Option.some.inj H
 subst e_
 exact q_retD (Ds:=Ds2_) 8 rfl hnd_Ds2_ hge_Ds2_ [6] rfl (by decide) (cellsB.cons cellsB.nil) (.inl rfl) rfl (vs:=[.bool false]) (.cell 0 rfl Tryz.underlying4 rfl rfl rfl .nil) (hX)
 subst h466_
 replace H:=ite_n (by decide) H
 refine c_cond0 rfl rfl ?_
 refine c_skip rfl ?_
 refine q_block ?_
 refine q_seq ?_
 refine r_ordb (l:=[0,1,2]) rfl (by kernel_rfl) ?_
 refine sM rfl ?_
 refine sR rfl ?_
 refine sA rfl ?_
 refine s_end ?_
 exact q_again (k5_,IntKind.wrap .i64 (x416_+1)) [0,1,2,3,4,5,6,7,8,9,10] H (Nat.lt_succ_of_le hko_5) (subF_spec ⟨rfl,rfl,rfl,rfl,rfl,trivial⟩) rfl (by decide)
 clear H
 have H:=e465_
 clear e465_
 refine r_ordb (l:=[0,1,2,3,4,5,6,7,8,9,10,11,12,13]) rfl (by kernel_rfl) ?_
 refine sM rfl ?_
 refine sM rfl ?_
 obtain ⟨n467_,H⟩:=ite_no H
 obtain ⟨n468_,H⟩:=ite_no H
 refine sV rfl (v_iaI rfl Tryz.underlying141 SZ3 rfl rfl n467_ n468_) ?_
 refine sV rfl (v_ldI 1 rfl Tryz.underlying3 rfl rfl rfl n467_ (lt_lh lh_xs314_ n468_)) ?_
 refine sR rfl ?_
 refine sM rfl ?_
 rcases Bool.eq_false_or_eq_true (decide ((rd xs314_ x416_:Int) > 1)) with h469_ | h469_
 replace H:=ite_y (dec_t h469_) H
 refine s_splitv (d:=133) (t:=decide ((rd xs314_ x416_:Int) > 1)) rfl (fun _=>?_) (fun h470_=>absurd (h470_.symm.trans h469_) (by decide))
 refine sN rfl ?_
 refine sN rfl ?_
 refine sN rfl ?_
 refine sN rfl ?_
 refine sN rfl ?_
 refine sN rfl ?_
 refine sN rfl ?_
 refine sP rfl ?_
 refine s_end ?_
 have hq_0:=Option.some.inj H
 obtain ⟨ee_0,hq_1⟩:=Prod.mk.inj hq_0
 subst ee_0
 subst hq_1
 exact q_seq (c_frame (subF_spec (by exact ⟨rfl,rfl,rfl,rfl,rfl,rfl,rfl,rfl,rfl,rfl,rfl,rfl,rfl,rfl,rfl,rfl,rfl,rfl,rfl,rfl,rfl,rfl,trivial⟩)) (c_take [0,1,2,3,4,5,6,7,8,9,10] rfl (by decide) (J_ () trivial)))
 replace H:=ite_n (dec_f h469_) H
 refine s_splitv (d:=133) (t:=decide ((rd xs314_ x416_:Int) > 1)) rfl (fun h471_=>absurd (h471_.symm.trans h469_) (by decide)) (fun _=>?_)
 refine sG rfl (vM rfl) ?_
 refine sG rfl (vM rfl) ?_
 refine sG rfl (vM rfl) ?_
 refine sG rfl (v_iaI rfl Tryz.underlying141 SZ3 rfl rfl n467_ n468_) ?_
 refine sG rfl (v_ldI 1 rfl Tryz.underlying3 rfl rfl rfl n467_ (lt_lh lh_xs314_ n468_)) ?_
 refine sG rfl (vR rfl) ?_
 refine sG rfl (v_eqnB rfl Tryz.underlying4 rfl rfl) ?_
 refine sP rfl ?_
 refine s_end ?_
 have hq_0:=Option.some.inj H
 obtain ⟨ee_0,hq_1⟩:=Prod.mk.inj hq_0
 subst ee_0
 subst hq_1
 exact q_seq (c_frame (subF_spec (by exact ⟨rfl,rfl,rfl,rfl,rfl,rfl,rfl,rfl,rfl,rfl,rfl,rfl,rfl,rfl,rfl,rfl,rfl,rfl,rfl,rfl,rfl,rfl,trivial⟩)) (c_take [0,1,2,3,4,5,6,7,8,9,10] rfl (by decide) (J_ () trivial)))
 replace H:=ite_n (dec_f h436_) H
 refine cF h436_ rfl ?_
 refine c_exit (i:=10) rfl rfl ?_
 refine q_then_exit ?_
 refine q_then_exit ?_
 refine q_block_here rfl ?_
 refine q_seq ?_
 refine c_seq rfl ?_
 refine r_ordb (l:=[0]) rfl (by kernel_rfl) ?_
 refine s_e rfl rfl (e_st 6 rfl rfl SZ4 rfl rfl rfl rfl (blt_lt rfl)) ?_
 refine sQ ?_
 refine c_ret rfl ?_
 have e_:=Option.some.inj H
 subst e_
 exact q_retD (Ds:=Ds2_) 8 rfl hnd_Ds2_ hge_Ds2_ [6] rfl (by decide) (cellsB.cons cellsB.nil) (.inl rfl) rfl (vs:=[.bool true]) (.cell 0 rfl Tryz.underlying4 rfl rfl rfl .nil) (hX)
end Go.Eng
namespace Go.Eng
open Go.Proofs Go.RowKit Go.Proofs.YtgbcnokeaaabfaaGreatW.PrintWords
set_option linter.unusedVariables false
set_option linter.unusedSimpArgs false
set_option maxRecDepth 100000 in
set_option maxHeartbeats 4000000 in
theorem pw_meta_con (T S C H K V L:Int) (g n c:Nat) (i j:Int) (hj:plan_Cell.f T S C H K V L i 0=some j) (h0:0≤j) (h1:j<(n:Int)) (w0:World) (Hs:List Nat):Con Tryz.prog 32 #[.agg (cfB T S C H K V L (some ⟨g,0,none⟩) n c),.I i] w0 Hs [] (fun X=>X (.pointer (some ⟨g,Int.toNat j,none⟩)) []):=by
 refine con_enter (c:=bodyOf Tryz.f32) Tryz.func32 rfl (m:=12) rfl rfl rfl ?_
 intro X hX _
 refine c_seq rfl ?_
 refine r_ordb (l:=[0,1]) rfl (by kernel_rfl) ?_
 refine s_e rfl rfl (e_box rfl rfl rfl rfl) ?_
 intro b2_
 refine sA rfl ?_
 refine sE rfl ?_
 refine r_any [.b b2_ (.cells (cfB T S C H K V L (some ⟨g,0,none⟩) n c) 65 (0,0))] (by kernel_rfl) rfl (by kernel_rfl) (mem_pick (idx:=[0]) rfl) ?_
 refine aV 0 rfl (by kernel_rfl) (vF Tryz.underlying65 SZ24 rfl) ?_
 refine aV 1 rfl (by kernel_rfl) (vL 0 Tryz.underlying24 rfl) ?_
 refine aV 2 rfl (by kernel_rfl) (vF Tryz.underlying65 SZ23 rfl) ?_
 refine aV 3 rfl (by kernel_rfl) (vLA (lfA T S C H K V L) 0 Tryz.underlying23 SZ23 rfl) ?_
 refine aV 4 rfl (by kernel_rfl) (vM rfl) ?_
 refine a_1 (i:=5) (by kernel_rfl) ?_
 refine i_e rfl rfl (eC [] #[.agg (cfA T S C H K V L),.I i,.I 0] Tryz.func35 (by decide) rfl (fun w ht=>plan_Cell_con T S C H K V L i 0 j hj w _)) ?_
 refine ⟨(mem_pick (idx:=[0]) rfl),?_⟩
 refine aV 6 rfl (by kernel_rfl) (v_iaI rfl Tryz.underlying24 SZ41 rfl rfl h0 h1) ?_
 refine aV 7 rfl (by kernel_rfl) (vA rfl) ?_
 refine a_end (by kernel_rfl) ?_
 refine q_seq ?_
 refine c_ret rfl ?_
 exact q_ret (vs:=[.pointer (some ⟨g,Int.toNat j,none⟩)]) rfl (.tmp rfl .nil) [] rfl (by decide) hX
def pw_frees.f (p0:Int) (p1:Int) (p2:Int) (p3:Int) (p4:Int) (p5:Int) (p6:Int) (n0_7:Nat) (l0_7:List Int) (a1:Int):Option (List Int):=(plan_Cell.f p0 p1 p2 p3 p4 p5 p6 a1 0).bind fun t7_=>(if 0≤(t7_:Int) then (if (t7_:Int)<(n0_7:Int) then (slot_Gen.f (rd l0_7 t7_)).bind fun t11_=>(slot_After.f t11_ p6).bind fun t13_=>some (l0_7.set (Int.toNat t7_) t13_) else none) else none)
set_option maxRecDepth 100000 in
set_option maxHeartbeats 4000000 in
theorem pw_frees_con (p0:Int) (p1:Int) (p2:Int) (p3:Int) (p4:Int) (p5:Int) (p6:Int) (g0_7 c0_7:Nat) (z0_7:List Value) (n0_7:Nat) (l0_7:List Int) (hn0_7:l0_7.length=n0_7) (a1:Int) (r0:List Int) (h:pw_frees.f p0 p1 p2 p3 p4 p5 p6 n0_7 l0_7 a1=some r0) (w0:World) (Hs:List Nat):Con Tryz.prog 29 #[.agg (cfB p0 p1 p2 p3 p4 p5 p6 (some ⟨g0_7,0,none⟩) n0_7 c0_7),.I a1] w0 Hs [.b g0_7 (.cells (RowI .u64 l0_7 z0_7) 41 (0,0))] (fun X=>r0.length=n0_7→X (.tuple #[]) [.b g0_7 (.cells (RowI .u64 r0 z0_7) 41 (0,0))]):=by
 refine con_enter (c:=bodyOf Tryz.f29) Tryz.func29 rfl (m:=18) rfl rfl rfl ?_
 intro X hX _
 have H:=h
 unfold pw_frees.f at H
 clear h
 refine c_seq rfl ?_
 refine r_ordb (l:=[0]) rfl (by kernel_rfl) ?_
 refine s_e rfl rfl (e_box rfl rfl rfl rfl) ?_
 intro b2_
 refine sE rfl ?_
 refine r_ordb (l:=[0,1,2,3]) rfl (by kernel_rfl) ?_
 refine sV rfl (vLA [.I p0,.I p1,.I p2,.I p3,.I p4,.I p5,.I p6,.slice (some ⟨g0_7,0,none⟩) n0_7 c0_7] 0 Tryz.underlying65 SZ65 rfl) ?_
 refine sM rfl ?_
 obtain ⟨t7_,e8_,H⟩:=bind_s H
 obtain ⟨n9_,H⟩:=ite_no H
 obtain ⟨n10_,H⟩:=ite_no H
 refine s_e rfl rfl (eC [] #[.agg (cfB p0 p1 p2 p3 p4 p5 p6 (some ⟨g0_7,0,none⟩) n0_7 c0_7),.I a1] Tryz.func32 (by decide) rfl (fun w ht=>pw_meta_con p0 p1 p2 p3 p4 p5 p6 g0_7 n0_7 c0_7 a1 t7_ e8_ n9_ n10_ w _)) ?_
 refine sA rfl ?_
 refine sQ ?_
 obtain ⟨t11_,e12_,H⟩:=bind_s H
 obtain ⟨t13_,e14_,H⟩:=bind_s H
 refine r_any [.b b2_ (.cells (cfB p0 p1 p2 p3 p4 p5 p6 (some ⟨g0_7,0,none⟩) n0_7 c0_7) 65 (0,0))] (by kernel_rfl) rfl (by kernel_rfl) (mem_pick (idx:=[0]) rfl) ?_
 refine aV 0 rfl (by kernel_rfl) (vM rfl) ?_
 refine aV 1 rfl (by kernel_rfl) (vM rfl) ?_
 refine aV 2 rfl (by kernel_rfl) (v_nil rfl rfl) ?_
 refine aV 5 rfl (by kernel_rfl) (vF Tryz.underlying65 SZ23 rfl) ?_
 refine aV 6 rfl (by kernel_rfl) (vF Tryz.underlying23 SZ3 rfl) ?_
 refine aV 7 rfl (by kernel_rfl) (vL 0 Tryz.underlying3 rfl) ?_
 refine a_1 (i:=3) (by kernel_rfl) ?_
 refine i_v rfl rfl rfl rfl (v_ldI 1 rfl Tryz.underlying41 rfl rfl rfl n9_ (lt_lh hn0_7 n10_)) ?_
 refine a_1 (i:=4) (by kernel_rfl) ?_
 refine i_e rfl rfl (eC [] #[.U (rd l0_7 t7_)] Tryz.func81 (by decide) rfl (fun w ht=>slot_Gen_con (rd l0_7 t7_) t11_ e12_ w _)) ?_
 refine ⟨(mem_pick (idx:=[0]) rfl),?_⟩
 refine a_1 (i:=8) (by kernel_rfl) ?_
 refine i_e rfl rfl (eC [] #[.I t11_,.I p6] Tryz.func80 (by decide) rfl (fun w ht=>slot_After_con t11_ p6 t13_ e14_ w _)) ?_
 refine ⟨(mem_pick (idx:=[0]) rfl),?_⟩
 refine aV 9 rfl (by kernel_rfl) (v_nil rfl rfl) ?_
 refine a_1 (i:=10) (by kernel_rfl) ?_
 refine i_e rfl rfl (e_stI 1 rfl rfl SZ41 rfl rfl rfl n9_ (lt_lh hn0_7 n10_)) ?_
 refine ⟨(mem_pick (idx:=[0]) rfl),?_⟩
 refine a_end (by kernel_rfl) ?_
 have e_:=Option.some.inj H
 subst e_
 exact q_retn (vs:=[]) rfl .nil [1] rfl (by decide) (hX (lh_set hn0_7))
def pw_lowest.l0:Nat→Int→Int→Int→Int→Int→Int→Int→Nat→List Int→Int→Int→Option (Int × (List Int))
 | 0,_,_,_,_,_,_,_,_,_,_,_=>none
 | k+1,p0,p1,p2,p3,p4,p5,p6,n0_7,l0_7,a1,x6_=>(if (x6_:Int)<a1 then ((if (x6_:Int) > 0 then (plan_Cell.f p0 p1 p2 p3 p4 p5 p6 x6_ 0).bind fun t55_=>(if 0≤(t55_:Int) then (if (t55_:Int)<(n0_7:Int) then (slot_State.f (rd l0_7 t55_)).bind fun t59_=>some (true,(t59_:Int) == 0) else none) else none) else some (false,false)):Option (Bool × Bool)).bind fun (j49_,j50_)=>(if j50_=true then some (x6_,l0_7) else pw_lowest.l0 k p0 p1 p2 p3 p4 p5 p6 n0_7 l0_7 a1 (IntKind.wrap .i64 (x6_+1))) else some (0,l0_7))
def pw_lowest.f (k:Nat) (p0:Int) (p1:Int) (p2:Int) (p3:Int) (p4:Int) (p5:Int) (p6:Int) (n0_7:Nat) (l0_7:List Int) (a1:Int):Option (Int × (List Int)):=pw_lowest.l0 k p0 p1 p2 p3 p4 p5 p6 n0_7 l0_7 a1 0
set_option maxRecDepth 100000 in
set_option maxHeartbeats 4000000 in
theorem pw_lowest_con (k:Nat) (p0:Int) (p1:Int) (p2:Int) (p3:Int) (p4:Int) (p5:Int) (p6:Int) (g0_7 c0_7:Nat) (z0_7:List Value) (n0_7:Nat) (l0_7:List Int) (hn0_7:l0_7.length=n0_7) (a1:Int) (r0:Int) (r1:List Int) (h:pw_lowest.f k p0 p1 p2 p3 p4 p5 p6 n0_7 l0_7 a1=some (r0,r1)) (w0:World) (Hs:List Nat):Con Tryz.prog 33 #[.agg (cfB p0 p1 p2 p3 p4 p5 p6 (some ⟨g0_7,0,none⟩) n0_7 c0_7),.I a1] w0 Hs [.b g0_7 (.cells (RowI .u64 l0_7 z0_7) 41 (0,0))] (fun X=>r1.length=n0_7→X (.I r0) [.b g0_7 (.cells (RowI .u64 r1 z0_7) 41 (0,0))]):=by
 refine con_enter (c:=bodyOf Tryz.f33) Tryz.func33 rfl (m:=23) rfl rfl rfl ?_
 intro X hX _
 have H:=h
 unfold pw_lowest.f at H
 clear h
 refine c_seq rfl ?_
 refine r_ordb (l:=[0,1]) rfl (by kernel_rfl) ?_
 refine s_e rfl rfl (e_box rfl rfl rfl rfl) ?_
 intro b2_
 refine sA rfl ?_
 refine sE rfl ?_
 refine c_seq rfl ?_
 refine r_ordb (l:=[0,1]) rfl (by kernel_rfl) ?_
 refine sM rfl ?_
 refine sM rfl ?_
 refine sQ ?_
 refine c_block rfl ?_
 refine c_loop (σ:=Nat × Int) (fun (k,x6_)=>pw_lowest.l0 k p0 p1 p2 p3 p4 p5 p6 n0_7 l0_7 a1 x6_=some (r0,r1)) (fun (k,x6_)=>k) (fun (k,x6_)=>[(2,.P b2_),(4,.I 0),(6,.I a1),(7,.I x6_)]) (fun (k,x6_)=>[.b b2_ (.cells (cfB p0 p1 p2 p3 p4 p5 p6 (some ⟨g0_7,0,none⟩) n0_7 c0_7) 65 (0,0)),.b g0_7 (.cells (RowI .u64 l0_7 z0_7) 41 (0,0))]) (k,0) [0,1] rfl H (subF_spec ⟨rfl,rfl,rfl,rfl,trivial⟩) rfl (by decide) ?_
 rintro ⟨k0_,x6_⟩ hs22_
 clear H
 have H:pw_lowest.l0 k0_ p0 p1 p2 p3 p4 p5 p6 n0_7 l0_7 a1 x6_=some (r0,r1):=hs22_
 try clear hs22_
 rcases k0_ with _ | k0_
 ·exact none_no (show none=_ from H)
 unfold pw_lowest.l0 at H
 have hko_0:k0_≤k0_:=Nat.le_refl _
 refine c_seq rfl ?_
 refine r_ordb (l:=[0]) rfl (by kernel_rfl) ?_
 refine sR rfl ?_
 refine sE rfl ?_
 rcases Bool.eq_false_or_eq_true (decide ((x6_:Int)<a1)) with h26_ | h26_
 ·
  replace H:=ite_y (dec_t h26_) H
  refine cT h26_ rfl ?_
  refine kQ rfl ?_
  refine c_seq rfl ?_
  refine c_block rfl ?_
  refine c_seq rfl ?_
  refine r_ordb (l:=[0,1]) rfl (by kernel_rfl) ?_
  refine sM rfl ?_
  refine sA rfl ?_
  refine sQ ?_
  obtain ⟨⟨j49_,j50_⟩,e51_,H⟩:=bind_s H
  refine c_join (β:=Unit) (fun _=>True) (fun _=>[(2,.P b2_),(4,.I 0),(6,.I a1),(7,.I x6_),(8,.bool (decide ((x6_:Int)<a1))),(9,.I x6_),(5,.I x6_),(10,.I x6_),(11,.bool (decide ((x6_:Int) > 0))),(12,.bool j49_),(20,.bool j50_)]) (fun _=>[.b b2_ (.cells (cfB p0 p1 p2 p3 p4 p5 p6 (some ⟨g0_7,0,none⟩) n0_7 c0_7) 65 (0,0)),.b g0_7 (.cells (RowI .u64 l0_7 z0_7) 41 (0,0))]) rfl (fun _ _=>?_) (fun J_=>?_)
  ·
   rcases Bool.eq_false_or_eq_true j50_ with h52_ | h52_
   ·
    subst h52_
    replace H:=ite_y rfl H
    refine c_cond1 rfl rfl ?_
    refine c_seq rfl ?_
    refine r_ordb (l:=[0,1]) rfl (by kernel_rfl) ?_
    refine sM rfl ?_
    refine sA rfl ?_
    refine sQ ?_
    refine c_ret rfl ?_
    refine q_block_ret ?_
    refine q_then_ret ?_
    refine q_then_ret ?_
    refine q_block_ret ?_
    refine q_then_ret ?_
    have hq_0:=Option.some.inj H
    obtain ⟨ee_0,hq_1⟩:=Prod.mk.inj hq_0
    subst ee_0
    subst hq_1
    exact q_ret (vs:=[.I x6_]) rfl (.tmp rfl .nil) [1] rfl (by decide) (hX hn0_7)
   ·
    subst h52_
    replace H:=ite_n (by decide) H
    refine c_cond0 rfl rfl ?_
    refine c_skip rfl ?_
    refine q_block ?_
    refine q_seq ?_
    refine r_ordb (l:=[0,1]) rfl (by kernel_rfl) ?_
    refine sR rfl ?_
    refine sM rfl ?_
    refine s_end ?_
    exact q_again (k0_,IntKind.wrap .i64 (x6_+1)) [0,1] H (Nat.lt_succ_of_le hko_0) (subF_spec ⟨rfl,rfl,rfl,rfl,trivial⟩) rfl (by decide)
  ·
   clear H
   have H:=e51_
   clear e51_
   refine r_ordb (l:=[0,1,2,3,4,5,6,7,8,9,10]) rfl (by kernel_rfl) ?_
   refine sM rfl ?_
   refine sR rfl ?_
   refine sM rfl ?_
   rcases Bool.eq_false_or_eq_true (decide ((x6_:Int) > 0)) with h53_ | h53_
   ·
    replace H:=ite_y (dec_t h53_) H
    refine s_splitv (d:=12) (t:=decide ((x6_:Int) > 0)) rfl (fun _=>?_) (fun h54_=>absurd (h54_.symm.trans h53_) (by decide))
    refine sG rfl (vLA [.I p0,.I p1,.I p2,.I p3,.I p4,.I p5,.I p6,.slice (some ⟨g0_7,0,none⟩) n0_7 c0_7] 0 Tryz.underlying65 SZ65 rfl) ?_
    refine sG rfl (vM rfl) ?_
    obtain ⟨t55_,e56_,H⟩:=bind_s H
    obtain ⟨n57_,H⟩:=ite_no H
    obtain ⟨n58_,H⟩:=ite_no H
    refine s_eg rfl rfl (eC [] #[.agg (cfB p0 p1 p2 p3 p4 p5 p6 (some ⟨g0_7,0,none⟩) n0_7 c0_7),.I x6_] Tryz.func32 (by decide) rfl (fun w ht=>pw_meta_con p0 p1 p2 p3 p4 p5 p6 g0_7 n0_7 c0_7 x6_ t55_ e56_ n57_ n58_ w _)) ?_
    refine sG rfl (v_nil rfl rfl) ?_
    refine sG rfl (v_ldI 1 rfl Tryz.underlying41 rfl rfl rfl n57_ (lt_lh hn0_7 n58_)) ?_
    obtain ⟨t59_,e60_,H⟩:=bind_s H
    refine s_eg rfl rfl (eC [] #[.U (rd l0_7 t55_)] Tryz.func31 (by decide) rfl (fun w ht=>slot_State_con (rd l0_7 t55_) t59_ e60_ w _)) ?_
    refine sG rfl (vR rfl) ?_
    refine sP rfl ?_
    refine s_end ?_
    have hq_0:=Option.some.inj H
    obtain ⟨ee_0,hq_1⟩:=Prod.mk.inj hq_0
    subst ee_0
    subst hq_1
    exact q_seq (c_frame (subF_spec (by exact ⟨rfl,rfl,rfl,rfl,rfl,rfl,rfl,rfl,rfl,rfl,rfl,trivial⟩)) (c_take [0,1] rfl (by decide) (J_ () trivial)))
   ·
    replace H:=ite_n (dec_f h53_) H
    refine s_splitv (d:=12) (t:=decide ((x6_:Int) > 0)) rfl (fun h61_=>absurd (h61_.symm.trans h53_) (by decide)) (fun _=>?_)
    refine sN rfl ?_
    refine sN rfl ?_
    refine sN rfl ?_
    refine sN rfl ?_
    refine sN rfl ?_
    refine sN rfl ?_
    refine sN rfl ?_
    refine sP rfl ?_
    refine s_end ?_
    have hq_0:=Option.some.inj H
    obtain ⟨ee_0,hq_1⟩:=Prod.mk.inj hq_0
    subst ee_0
    subst hq_1
    exact q_seq (c_frame (subF_spec (by exact ⟨rfl,rfl,rfl,rfl,rfl,rfl,rfl,rfl,rfl,rfl,rfl,trivial⟩)) (c_take [0,1] rfl (by decide) (J_ () trivial)))
 ·
  replace H:=ite_n (dec_f h26_) H
  refine cF h26_ rfl ?_
  refine c_exit (i:=0) rfl rfl ?_
  refine q_then_exit ?_
  refine q_then_exit ?_
  refine q_block_here rfl ?_
  refine q_seq ?_
  refine c_seq rfl ?_
  refine r_ordb (l:=[0]) rfl (by kernel_rfl) ?_
  refine sA rfl ?_
  refine sQ ?_
  refine c_ret rfl ?_
  have hq_0:=Option.some.inj H
  obtain ⟨ee_0,hq_1⟩:=Prod.mk.inj hq_0
  subst ee_0
  subst hq_1
  exact q_ret (vs:=[.I 0]) rfl (.tmp rfl .nil) [1] rfl (by decide) (hX hn0_7)
def pw_moves.l0:Nat→Int→Int→Int→Int→Int→Int→Int→Nat→Int→Int→Int→Int→Int→List Int→Option (Int × Int × (List Int))
 | 0,_,_,_,_,_,_,_,_,_,_,_,_,_,_=>none
 | k+1,p0,p1,p2,p3,p4,p5,p6,n0_7,a1,a2,t18_,t36_,x50_,xs51_=>(if (x50_:Int)<(IntKind.wrap .i64 (6+p3)) then (plan_Cell.f p0 p1 p2 p3 p4 p5 p6 a2 x50_).bind fun t77_=>(plan_Cell.f p0 p1 p2 p3 p4 p5 p6 a1 x50_).bind fun t79_=>(if 0≤(t79_:Int) then (if (t79_:Int)<(n0_7:Int) then (if 0≤(t77_:Int) then (if (t77_:Int)<(n0_7:Int) then pw_moves.l0 k p0 p1 p2 p3 p4 p5 p6 n0_7 a1 a2 t18_ t36_ (IntKind.wrap .i64 (x50_+1)) (xs51_.set (Int.toNat t77_) (rd xs51_ t79_)) else none) else none) else none) else none) else (plan_Cell.f p0 p1 p2 p3 p4 p5 p6 a2 0).bind fun t99_=>(if 0≤(t99_:Int) then (if (t99_:Int)<(n0_7:Int) then (plan_Cell.f p0 p1 p2 p3 p4 p5 p6 a2 0).bind fun t103_=>(if 0≤(t103_:Int) then (if (t103_:Int)<(n0_7:Int) then (slot_Gen.f (rd xs51_ t103_)).bind fun t107_=>(slot_Meta.f 1 t107_).bind fun (t109_,t110_)=>(pw_frees.f p0 p1 p2 p3 p4 p5 p6 n0_7 (xs51_.set (Int.toNat t99_) t109_) a1).bind fun t115_=>some (t18_,t36_,t115_) else none) else none) else none) else none))
def pw_moves.f (k:Nat) (p0:Int) (p1:Int) (p2:Int) (p3:Int) (p4:Int) (p5:Int) (p6:Int) (n0_7:Nat) (l0_7:List Int) (a1:Int) (a2:Int):Option (Int × Int × (List Int)):=(plan_Cell.f p0 p1 p2 p3 p4 p5 p6 a1 0).bind fun t12_=>(if 0≤(t12_:Int) then (if (t12_:Int)<(n0_7:Int) then (slot_Gen.f (rd l0_7 t12_)).bind fun t16_=>(handle_Pack0.f a1 t16_).bind fun (t18_,t19_)=>(plan_Cell.f p0 p1 p2 p3 p4 p5 p6 a2 0).bind fun t30_=>(if 0≤(t30_:Int) then (if (t30_:Int)<(n0_7:Int) then (slot_Gen.f (rd l0_7 t30_)).bind fun t34_=>(handle_Pack0.f a2 t34_).bind fun (t36_,t37_)=>pw_moves.l0 k p0 p1 p2 p3 p4 p5 p6 n0_7 a1 a2 t18_ t36_ 1 l0_7 else none) else none) else none) else none)
set_option maxRecDepth 100000 in
set_option maxHeartbeats 4000000 in
theorem pw_moves_con (k:Nat) (p0:Int) (p1:Int) (p2:Int) (p3:Int) (p4:Int) (p5:Int) (p6:Int) (g0_7 c0_7:Nat) (z0_7:List Value) (n0_7:Nat) (l0_7:List Int) (hn0_7:l0_7.length=n0_7) (a1:Int) (a2:Int) (r0:Int) (r1:Int) (r2:List Int) (h:pw_moves.f k p0 p1 p2 p3 p4 p5 p6 n0_7 l0_7 a1 a2=some (r0,r1,r2)) (w0:World) (Hs:List Nat):Con Tryz.prog 34 #[.agg (cfB p0 p1 p2 p3 p4 p5 p6 (some ⟨g0_7,0,none⟩) n0_7 c0_7),.I a1,.I a2] w0 Hs [.b g0_7 (.cells (RowI .u64 l0_7 z0_7) 41 (0,0))] (fun X=>r2.length=n0_7→X (.tuple #[.U r0,.U r1]) [.b g0_7 (.cells (RowI .u64 r2 z0_7) 41 (0,0))]):=by
 refine con_enter (c:=bodyOf Tryz.f34) Tryz.func34 rfl (m:=79) rfl rfl rfl ?_
 intro X hX _
 have H:=h
 unfold pw_moves.f at H
 clear h
 refine c_seq rfl ?_
 refine r_ordb (l:=[0,1,2]) rfl (by kernel_rfl) ?_
 refine s_e rfl rfl (e_box rfl rfl rfl rfl) ?_
 intro b2_
 refine sA rfl ?_
 refine sA rfl ?_
 refine sE rfl ?_
 refine r_ordb (l:=[0,1,2,3,4,5,6,7,8,9,10,11,12]) rfl (by kernel_rfl) ?_
 refine sM rfl ?_
 refine sV rfl (vLA [.I p0,.I p1,.I p2,.I p3,.I p4,.I p5,.I p6,.slice (some ⟨g0_7,0,none⟩) n0_7 c0_7] 0 Tryz.underlying65 SZ65 rfl) ?_
 refine sM rfl ?_
 obtain ⟨t12_,e13_,H⟩:=bind_s H
 obtain ⟨n14_,H⟩:=ite_no H
 obtain ⟨n15_,H⟩:=ite_no H
 refine s_e rfl rfl (eC [] #[.agg (cfB p0 p1 p2 p3 p4 p5 p6 (some ⟨g0_7,0,none⟩) n0_7 c0_7),.I a1] Tryz.func32 (by decide) rfl (fun w ht=>pw_meta_con p0 p1 p2 p3 p4 p5 p6 g0_7 n0_7 c0_7 a1 t12_ e13_ n14_ n15_ w _)) ?_
 refine sV rfl (v_nil rfl rfl) ?_
 refine sV rfl (v_ldI 1 rfl Tryz.underlying41 rfl rfl rfl n14_ (lt_lh hn0_7 n15_)) ?_
 obtain ⟨t16_,e17_,H⟩:=bind_s H
 refine s_e rfl rfl (eC [] #[.U (rd l0_7 t12_)] Tryz.func81 (by decide) rfl (fun w ht=>slot_Gen_con (rd l0_7 t12_) t16_ e17_ w _)) ?_
 obtain ⟨⟨t18_,t19_⟩,e20_,H⟩:=bind_s H
 refine s_e rfl rfl (eC [] #[.I a1,.I t16_,.bool false] Tryz.func83 (by decide) rfl (fun w ht=>handle_Pack0_call a1 t16_ t18_ t19_ e20_ w _)) ?_
 refine sM rfl ?_
 refine sV rfl (v_ext rfl rfl rfl) ?_
 refine sV rfl (v_ext rfl rfl rfl) ?_
 refine sA rfl ?_
 refine sA rfl ?_
 refine sE rfl ?_
 refine r_ordb (l:=[0,1,2,3,4,5,6,7,8,9,10,11,12]) rfl (by kernel_rfl) ?_
 refine sM rfl ?_
 refine sV rfl (vLA [.I p0,.I p1,.I p2,.I p3,.I p4,.I p5,.I p6,.slice (some ⟨g0_7,0,none⟩) n0_7 c0_7] 0 Tryz.underlying65 SZ65 rfl) ?_
 refine sM rfl ?_
 obtain ⟨t30_,e31_,H⟩:=bind_s H
 obtain ⟨n32_,H⟩:=ite_no H
 obtain ⟨n33_,H⟩:=ite_no H
 refine s_e rfl rfl (eC [] #[.agg (cfB p0 p1 p2 p3 p4 p5 p6 (some ⟨g0_7,0,none⟩) n0_7 c0_7),.I a2] Tryz.func32 (by decide) rfl (fun w ht=>pw_meta_con p0 p1 p2 p3 p4 p5 p6 g0_7 n0_7 c0_7 a2 t30_ e31_ n32_ n33_ w _)) ?_
 refine sV rfl (v_nil rfl rfl) ?_
 refine sV rfl (v_ldI 1 rfl Tryz.underlying41 rfl rfl rfl n32_ (lt_lh hn0_7 n33_)) ?_
 obtain ⟨t34_,e35_,H⟩:=bind_s H
 refine s_e rfl rfl (eC [] #[.U (rd l0_7 t30_)] Tryz.func81 (by decide) rfl (fun w ht=>slot_Gen_con (rd l0_7 t30_) t34_ e35_ w _)) ?_
 obtain ⟨⟨t36_,t37_⟩,e38_,H⟩:=bind_s H
 refine s_e rfl rfl (eC [] #[.I a2,.I t34_,.bool false] Tryz.func83 (by decide) rfl (fun w ht=>handle_Pack0_call a2 t34_ t36_ t37_ e38_ w _)) ?_
 refine sM rfl ?_
 refine sV rfl (v_ext rfl rfl rfl) ?_
 refine sV rfl (v_ext rfl rfl rfl) ?_
 refine sA rfl ?_
 refine sA rfl ?_
 refine sE rfl ?_
 refine c_seq rfl ?_
 refine r_ordb (l:=[0]) rfl (by kernel_rfl) ?_
 refine sA rfl ?_
 refine sQ ?_
 refine c_block rfl ?_
 refine c_loop (σ:=Nat × Int × List Int) (fun (k,x50_,xs51_)=>pw_moves.l0 k p0 p1 p2 p3 p4 p5 p6 n0_7 a1 a2 t18_ t36_ x50_ xs51_=some (r0,r1,r2)∧xs51_.length=n0_7) (fun (k,x50_,xs51_)=>k) (fun (k,x50_,xs51_)=>[(1,.I a1),(2,.I a2),(3,.P b2_),(6,.U 0),(7,.U 0),(8,.U t18_),(10,.U t36_),(12,.I x50_)]) (fun (k,x50_,xs51_)=>[.b b2_ (.cells (cfB p0 p1 p2 p3 p4 p5 p6 (some ⟨g0_7,0,none⟩) n0_7 c0_7) 65 (0,0)),.b g0_7 (.cells (RowI .u64 xs51_ z0_7) 41 (0,0))]) (k,1,l0_7) [0,1] rfl ⟨H,hn0_7⟩ (subF_spec ⟨rfl,rfl,rfl,rfl,rfl,rfl,rfl,rfl,trivial⟩) rfl (by decide) ?_
 rintro ⟨k0_,x50_,xs51_⟩ hs63_
 clear H
 obtain ⟨H,lh_xs51_⟩:pw_moves.l0 k0_ p0 p1 p2 p3 p4 p5 p6 n0_7 a1 a2 t18_ t36_ x50_ xs51_=some (r0,r1,r2)∧xs51_.length=n0_7:=hs63_
 try clear hs63_
 rcases k0_ with _ | k0_
 ·exact none_no (show none=_ from H)
 unfold pw_moves.l0 at H
 have hko_0:k0_≤k0_:=Nat.le_refl _
 refine c_seq rfl ?_
 refine c_seq rfl ?_
 refine r_ordb (l:=[0,1,2,3,4,5]) rfl (by kernel_rfl) ?_
 refine sM rfl ?_
 refine sV rfl (vF Tryz.underlying65 SZ23 rfl) ?_
 refine sV rfl (vF Tryz.underlying23 SZ3 rfl) ?_
 refine sV rfl (vL 0 Tryz.underlying3 rfl) ?_
 refine sR rfl ?_
 refine sR rfl ?_
 refine sQ ?_
 rcases Bool.eq_false_or_eq_true (decide ((x50_:Int)<(IntKind.wrap .i64 (6+p3)))) with h67_ | h67_
 ·
  replace H:=ite_y (dec_t h67_) H
  refine cT h67_ rfl ?_
  refine kQ rfl ?_
  refine c_seq rfl ?_
  refine c_block rfl ?_
  obtain ⟨t77_,e78_,H⟩:=bind_s H
  obtain ⟨t79_,e80_,H⟩:=bind_s H
  obtain ⟨n81_,H⟩:=ite_no H
  obtain ⟨n82_,H⟩:=ite_no H
  obtain ⟨n83_,H⟩:=ite_no H
  obtain ⟨n84_,H⟩:=ite_no H
  refine r_any [.b b2_ (.cells (cfB p0 p1 p2 p3 p4 p5 p6 (some ⟨g0_7,0,none⟩) n0_7 c0_7) 65 (0,0))] (by kernel_rfl) rfl (by kernel_rfl) (mem_pick (idx:=[0]) rfl) ?_
  refine aV 0 rfl (by kernel_rfl) (vF Tryz.underlying65 SZ24 rfl) ?_
  refine aV 1 rfl (by kernel_rfl) (vL 0 Tryz.underlying24 rfl) ?_
  refine aV 2 rfl (by kernel_rfl) (vF Tryz.underlying65 SZ23 rfl) ?_
  refine aV 3 rfl (by kernel_rfl) (vLA (lfA p0 p1 p2 p3 p4 p5 p6) 0 Tryz.underlying23 SZ23 rfl) ?_
  refine aV 4 rfl (by kernel_rfl) (vM rfl) ?_
  refine aV 5 rfl (by kernel_rfl) (vM rfl) ?_
  refine aV 7 rfl (by kernel_rfl) (vF Tryz.underlying65 SZ24 rfl) ?_
  refine aV 8 rfl (by kernel_rfl) (vL 0 Tryz.underlying24 rfl) ?_
  refine aV 9 rfl (by kernel_rfl) (vF Tryz.underlying65 SZ23 rfl) ?_
  refine aV 10 rfl (by kernel_rfl) (vLA (lfA p0 p1 p2 p3 p4 p5 p6) 0 Tryz.underlying23 SZ23 rfl) ?_
  refine aV 11 rfl (by kernel_rfl) (vM rfl) ?_
  refine aV 12 rfl (by kernel_rfl) (vM rfl) ?_
  refine a_1 (i:=6) (by kernel_rfl) ?_
  refine i_e rfl rfl (eC [] #[.agg (cfA p0 p1 p2 p3 p4 p5 p6),.I a2,.I x50_] Tryz.func35 (by decide) rfl (fun w ht=>plan_Cell_con p0 p1 p2 p3 p4 p5 p6 a2 x50_ t77_ e78_ w _)) ?_
  refine ⟨(mem_pick (idx:=[0]) rfl),?_⟩
  refine a_1 (i:=13) (by kernel_rfl) ?_
  refine i_e rfl rfl (eC [] #[.agg (cfA p0 p1 p2 p3 p4 p5 p6),.I a1,.I x50_] Tryz.func35 (by decide) rfl (fun w ht=>plan_Cell_con p0 p1 p2 p3 p4 p5 p6 a1 x50_ t79_ e80_ w _)) ?_
  refine ⟨(mem_pick (idx:=[0]) rfl),?_⟩
  refine a_1 (i:=14) (by kernel_rfl) ?_
  refine i_v rfl rfl rfl rfl (v_iaI rfl Tryz.underlying24 SZ41 rfl rfl n81_ n82_) ?_
  refine a_1 (i:=15) (by kernel_rfl) ?_
  refine i_v rfl rfl rfl rfl (v_ldI 1 rfl Tryz.underlying41 rfl rfl rfl n81_ (lt_lh lh_xs51_ n82_)) ?_
  refine a_1 (i:=16) (by kernel_rfl) ?_
  refine i_v rfl rfl rfl rfl (v_iaI rfl Tryz.underlying24 SZ41 rfl rfl n83_ n84_) ?_
  refine a_1 (i:=17) (by kernel_rfl) ?_
  refine i_e rfl rfl (e_stI 1 rfl rfl SZ41 rfl rfl rfl n83_ (lt_lh lh_xs51_ n84_)) ?_
  refine ⟨(mem_pick (idx:=[0]) rfl),?_⟩
  refine a_end (by kernel_rfl) ?_
  refine q_block ?_
  refine q_seq ?_
  refine r_ordb (l:=[0,1,2]) rfl (by kernel_rfl) ?_
  refine sM rfl ?_
  refine sR rfl ?_
  refine sA rfl ?_
  refine s_end ?_
  exact q_again (k0_,IntKind.wrap .i64 (x50_+1),(xs51_.set (Int.toNat t77_) (rd xs51_ t79_))) [0,1] ⟨H,(lh_set lh_xs51_)⟩ (Nat.lt_succ_of_le hko_0) (subF_spec ⟨rfl,rfl,rfl,rfl,rfl,rfl,rfl,rfl,trivial⟩) rfl (by decide)
 ·
  replace H:=ite_n (dec_f h67_) H
  refine cF h67_ rfl ?_
  refine c_exit (i:=0) rfl rfl ?_
  refine q_then_exit ?_
  refine q_then_exit ?_
  refine q_block_here rfl ?_
  refine q_seq ?_
  refine c_seq rfl ?_
  obtain ⟨t99_,e100_,H⟩:=bind_s H
  obtain ⟨n101_,H⟩:=ite_no H
  obtain ⟨n102_,H⟩:=ite_no H
  obtain ⟨t103_,e104_,H⟩:=bind_s H
  obtain ⟨n105_,H⟩:=ite_no H
  obtain ⟨n106_,H⟩:=ite_no H
  obtain ⟨t107_,e108_,H⟩:=bind_s H
  obtain ⟨⟨t109_,t110_⟩,e111_,H⟩:=bind_s H
  refine r_any [.b b2_ (.cells (cfB p0 p1 p2 p3 p4 p5 p6 (some ⟨g0_7,0,none⟩) n0_7 c0_7) 65 (0,0))] (by kernel_rfl) rfl (by kernel_rfl) (mem_pick (idx:=[0]) rfl) ?_
  refine aV 0 rfl (by kernel_rfl) (vLA [.I p0,.I p1,.I p2,.I p3,.I p4,.I p5,.I p6,.slice (some ⟨g0_7,0,none⟩) n0_7 c0_7] 0 Tryz.underlying65 SZ65 rfl) ?_
  refine aV 1 rfl (by kernel_rfl) (vM rfl) ?_
  refine aV 3 rfl (by kernel_rfl) (vLA [.I p0,.I p1,.I p2,.I p3,.I p4,.I p5,.I p6,.slice (some ⟨g0_7,0,none⟩) n0_7 c0_7] 0 Tryz.underlying65 SZ65 rfl) ?_
  refine aV 4 rfl (by kernel_rfl) (vM rfl) ?_
  refine a_1 (i:=2) (by kernel_rfl) ?_
  refine i_e rfl rfl (eC [] #[.agg (cfB p0 p1 p2 p3 p4 p5 p6 (some ⟨g0_7,0,none⟩) n0_7 c0_7),.I a2] Tryz.func32 (by decide) rfl (fun w ht=>pw_meta_con p0 p1 p2 p3 p4 p5 p6 g0_7 n0_7 c0_7 a2 t99_ e100_ n101_ n102_ w _)) ?_
  refine ⟨(mem_pick (idx:=[0]) rfl),?_⟩
  refine a_1 (i:=5) (by kernel_rfl) ?_
  refine i_e rfl rfl (eC [] #[.agg (cfB p0 p1 p2 p3 p4 p5 p6 (some ⟨g0_7,0,none⟩) n0_7 c0_7),.I a2] Tryz.func32 (by decide) rfl (fun w ht=>pw_meta_con p0 p1 p2 p3 p4 p5 p6 g0_7 n0_7 c0_7 a2 t103_ e104_ n105_ n106_ w _)) ?_
  refine ⟨(mem_pick (idx:=[0]) rfl),?_⟩
  refine aV 6 rfl (by kernel_rfl) (v_nil rfl rfl) ?_
  refine a_1 (i:=7) (by kernel_rfl) ?_
  refine i_v rfl rfl rfl rfl (v_ldI 1 rfl Tryz.underlying41 rfl rfl rfl n105_ (lt_lh lh_xs51_ n106_)) ?_
  refine a_1 (i:=8) (by kernel_rfl) ?_
  refine i_e rfl rfl (eC [] #[.U (rd xs51_ t103_)] Tryz.func81 (by decide) rfl (fun w ht=>slot_Gen_con (rd xs51_ t103_) t107_ e108_ w _)) ?_
  refine ⟨(mem_pick (idx:=[0]) rfl),?_⟩
  refine a_1 (i:=9) (by kernel_rfl) ?_
  refine i_e rfl rfl (eC [] #[.I 1,.I t107_] Tryz.func84 (by decide) rfl (fun w ht=>slot_Meta_con 1 t107_ t109_ t110_ e111_ w _)) ?_
  refine ⟨(mem_pick (idx:=[0]) rfl),?_⟩
  refine aV 10 rfl (by kernel_rfl) (vM rfl) ?_
  refine aV 11 rfl (by kernel_rfl) (v_ext rfl rfl rfl) ?_
  refine aV 12 rfl (by kernel_rfl) (v_ext rfl rfl rfl) ?_
  refine aV 13 rfl (by kernel_rfl) (v_nil rfl rfl) ?_
  refine a_1 (i:=14) (by kernel_rfl) ?_
  refine i_e rfl rfl (e_stI 1 rfl rfl SZ41 rfl rfl rfl n101_ (lt_lh lh_xs51_ n102_)) ?_
  refine ⟨(mem_pick (idx:=[0]) rfl),?_⟩
  refine a_end (by kernel_rfl) ?_
  refine q_seq ?_
  refine c_seq rfl ?_
  refine r_ordb (l:=[0,1,2]) rfl (by kernel_rfl) ?_
  refine sV rfl (vLA [.I p0,.I p1,.I p2,.I p3,.I p4,.I p5,.I p6,.slice (some ⟨g0_7,0,none⟩) n0_7 c0_7] 0 Tryz.underlying65 SZ65 rfl) ?_
  refine sM rfl ?_
  obtain ⟨t115_,e116_,H⟩:=bind_s H
  refine s_e rfl rfl (e_call [1] [0] #[.agg (cfB p0 p1 p2 p3 p4 p5 p6 (some ⟨g0_7,0,none⟩) n0_7 c0_7),.I a1] rfl rfl rfl rfl rfl Tryz.func29 rfl (by decide) rfl rfl rfl rfl (by decide) (fun w ht=>pw_frees_con p0 p1 p2 p3 p4 p5 p6 g0_7 c0_7 z0_7 n0_7 (xs51_.set (Int.toNat t99_) t109_) (lh_set lh_xs51_) a1 t115_ e116_ w _)) ?_
  intro lh117_
  refine sE rfl ?_
  refine r_ordb (l:=[0,1,2,3]) rfl (by kernel_rfl) ?_
  refine sM rfl ?_
  refine sM rfl ?_
  refine sA rfl ?_
  refine sA rfl ?_
  refine sQ ?_
  refine c_ret rfl ?_
  have hq_0:=Option.some.inj H
  obtain ⟨ee_0,hq_1⟩:=Prod.mk.inj hq_0
  obtain ⟨ee_1,hq_2⟩:=Prod.mk.inj hq_1
  subst ee_0
  subst ee_1
  subst hq_2
  exact q_ret (vs:=[.U t18_,.U t36_]) rfl (.tmp rfl (.tmp rfl .nil)) [0] rfl (by decide) (hX lh117_)
end Go.Eng
