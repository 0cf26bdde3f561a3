/-
What an operation of a run makes of memory: rows that grow, copies; all of them.
-/
import Derived.Test.YtlipgpeninlcdaaGreatZ9
import Derived.Lib.AppendZeros
import Derived.ArgAppend
namespace Go.Run
open Go.Eng
set_option linter.unusedVariables false
set_option linter.unusedSimpArgs false
section
variable {P : Program} {E : Env} {F : Fm} {FL : FL} {n : Nat} {a : Act} {w0 : World} {H : PT Ob} {c : Nat} {w w' : World} {o : Oper}
theorem run_append_call {cl : Call} {x y : Operand} {t : TypeId} {u v : Value} (hfr : Fr ⟨n, []⟩ a FL) (ho : o.op = .call cl) (hc : cl.callee = .builtin .append) (hca : cl.args.toList = [x, y]) (hct : cl.argTypes.toList = [t, t]) (hx : ev FL x = some u) (hy : ev FL y = some v) {r : Value} (h : (Builtin.append_ #[t, t] o.type #[u, v]).run P w = .ok r w') : (execOp a.eval o).run P w = .ok (.value r) w' := by
  have h1 : cl.args = #[x, y] := Array.toList_inj.1 (by simpa using hca)
  have h2 : cl.argTypes = #[t, t] := Array.toList_inj.1 (by simpa using hct)
  simp only [execOp, ho, resolve, hc, h1, h2, Sem.run_bind, Sem.run_pure, Result.andThen_ok, invoke, builtin, List.map_toArray, List.map_cons, List.map_nil, hfr.ev hx, hfr.ev hy, h]
theorem f_app0 {cl : Call} {x y : Operand} {t e : TypeId} {m bytes : Nat} {z : List V} {u v : V} {wl : List Nat} {pc : List (X × Bool)} (hF : FRel E F FL) (hfr : Fr ⟨n, []⟩ a FL) (hw : Wr w0 E H.get w) (ho : o.op = .call cl) (hc : cl.callee = .builtin .append) (hca : cl.args.toList = [x, y]) (hct : cl.argTypes.toList = [t, t]) (he : elw P t = some (e, m, bytes, z)) (hx : eo F x = some u) (hy : eo F y = some v)
    (hu : u = .nsl ∨ ∃ b off q cap, u = .sl b off q cap) (hv : v = .nsl ∨ ∃ b off cap, v = .sl b off 0 cap) : Eff P w0 E H c o a w u ⟨H, c, wl, pc⟩ := by
  obtain ⟨h1, h2, i, zz, h3, h4, h5, h6, h7, h8⟩ := elw_ok he
  obtain ⟨u1, e1, r1⟩ := eo_ok hF hx
  obtain ⟨v1, e2, r2⟩ := eo_ok hF hy
  have hs : (P.info? e).map (·.size) = some m := by rw [h3]; simp [h5]
  have hu' : ∃ A q cp, u1 = .slice A q cp ∧ q ≤ cp := by
    rcases hu with rfl | ⟨b, off, q, cap, rfl⟩
    · exact ⟨none, 0, 0, r1, Nat.le_refl _⟩
    · obtain ⟨g, cp, _, _, hl, rfl⟩ := r1
      exact ⟨_, q, cp, rfl, hl⟩
  have hv' : ∃ B cp, v1 = .slice B 0 cp := by
    rcases hv with rfl | ⟨b, off, cap, rfl⟩
    · exact ⟨none, 0, r2⟩
    · obtain ⟨g, cp, _, _, hl, rfl⟩ := r2
      exact ⟨_, cp, rfl⟩
  obtain ⟨A, q, cp, rfl, hq⟩ := hu'
  obtain ⟨B, cp', rfl⟩ := hv'
  exact ⟨_, w, E, .inl (run_append_call hfr ho hc hca hct e1 e2 (run_app0 h1 hs A B q cp cp' hq w)), Nx.refl hw c wl, r1⟩
/-- What is read for an append. -/
theorem app_src {b off k m : Nat} {ob : Ob} {ns : List V} (hw : Wr w0 E H.get w) (hb : H.get b = some ob) {g : Nat} (hg : E.ν b = some g) (hp : prt ob.cells off (Nat.mul k m) = some ns) : ∃ news, VRs E ns news ∧ news.length = k * m ∧ ∀ j u, news[j]? = some u → w.cell? ((⟨g, off, none⟩ : Addr).add j) = some u := by
  obtain ⟨us, cur, h1, h2, h3⟩ := live_ hw hb hg
  obtain ⟨p1, rfl, p2⟩ := prt_ok hp h1
  rw [← h1.len] at p1
  refine ⟨_, p2, by rw [List.length_take, List.length_drop]; simp only [Nat.mul_eq] at p1 ⊢; omega, fun j u hu => ?_⟩
  rw [addr_add]
  rw [List.getElem?_take] at hu
  split at hu
  · rw [List.getElem?_drop] at hu
    have := take_at h3 hu
    simp [World.cell?, h2, this]
  · cases hu
theorem f_appN {cl : Call} {x y : Operand} {t e : TypeId} {m bytes b off k : Nat} {cap : Cap} {z ns : List V} {ob : Ob} {wl : List Nat} {pc : List (X × Bool)} (hF : FRel E F FL) (hfr : Fr ⟨n, []⟩ a FL) (hw : Wr w0 E H.get w) (fn : E.ν c = none) (fk : E.κ c = none) (ho : o.op = .call cl) (hc : cl.callee = .builtin .append) (hca : cl.args.toList = [x, y]) (hct : cl.argTypes.toList = [t, t]) (he : elw P t = some (e, m, bytes, z)) (hx : eo F x = some .nsl) (hy : eo F y = some (.sl b off k cap))
    (hb : H.get b = some ob) (hk : Nat.blt 0 k = true) (hp : prt ob.cells off (Nat.mul k m) = some ns) (h1 : ones ns = true) (hf : fits 0 k bytes = true) : Eff P w0 E H c o a w (.sl c 0 k (.u c 0)) (Mm.new ⟨H, c, wl, pc⟩ ⟨ns, e, some (.u c 0, m)⟩) := by
  obtain ⟨q1, q2, i, zz, q3, q4, q5, q6, q7, q8⟩ := elw_ok he
  obtain ⟨u1, e1, r1⟩ := eo_ok hF hx
  rw [show u1 = .slice none 0 0 from r1] at e1
  obtain ⟨v1, e2, g, cp, hg, _, _, rfl⟩ := eo_ok hF hy
  obtain ⟨news, n1, n2, n3⟩ := app_src hw hb hg hp
  have hk := Nat.le_of_ble_eq_true hk
  unfold fits at hf
  rw [Bool.and_eq_true] at hf
  have f1 := Nat.le_of_ble_eq_true hf.1
  have f2 := Nat.le_of_ble_eq_true hf.2
  have hown : w.ownsRow w.heap.size e m (.slice none 0 0) 0 [] := ⟨by simp, .inl ⟨rfl, rfl⟩⟩
  obtain ⟨v', w', hrun, hrow, hgrow, hnil⟩ := run_append_own (P := P) w w.heap.size t o.type e i zz m bytes q1 q3 q4 q5 q6 q7 q2 (.slice none 0 0) 0 [] hown ⟨g, off, none⟩ k cp news n2 n3 (ones_ok n1 h1) f2 f1 (Nat.le_refl _)
  obtain ⟨hl, hcase⟩ := hrow
  rcases hcase with ⟨rfl, h0⟩ | ⟨g', cap', cur, rfl, hg', hgh, hnc, hcm, hsz, htk⟩
  · omega
  · simp only [Nat.zero_add, List.nil_append] at hnc htk hrun hl
    have hex := ext_new fn fk g' (some cap')
    refine ⟨_, w', E.new c g' (some cap'), .inl (run_append_call hfr ho hc hca hct e1 e2 hrun), nx_new hw fn fk (agree_of0 hgrow) hg' hgh ?_ wl, ⟨g', cap', new_ν E c _ _, ⟨cap', new_κ E c _ _, rfl⟩, hnc, rfl⟩⟩
    refine ⟨news, cur, cap', VRs.mono hex _ _ n1, ⟨cap', new_κ E c _ _, rfl⟩, rfl, ?_, hsz, hcm⟩
    rw [hl]; exact htk
theorem room_ok {ob : Ob} {obj : Obj} {cap : Cap} {m cp : Nat} (h : OR E ob obj) (hr : roomOk ob cap m = true) (hc : cap.ok E cp) : ∃ us cur, VRs E ob.cells us ∧ obj = .cells cur ob.e (0, 0) ∧ cur.toList.take us.length = us ∧ cur.size = cp * m ∧ cp ≤ maxLen := by
  unfold roomOk at hr
  unfold OR at h
  split at hr
  · rename_i c' hm
    rw [hm] at h
    obtain ⟨us, h1, rfl⟩ := h
    rw [Bool.and_eq_true] at hr
    have r1 := Nat.eq_of_beq_eq_true hr.1
    have r2 := Nat.le_of_ble_eq_true hr.2
    have hcc : cp = c' := hc
    subst hcc
    refine ⟨us, us.toArray, h1, rfl, by simp, ?_, r2⟩
    rw [List.size_toArray, h1.len, ← ln_eq, r1]; rfl
  · rename_i i d m' i' d' hm
    rw [hm] at h
    obtain ⟨us, cur, k, h1, ⟨k1, h2, rfl⟩, rfl, h4, h5, h6⟩ := h
    rw [Bool.and_eq_true, Bool.and_eq_true] at hr
    have r1 := Nat.eq_of_beq_eq_true hr.1.1
    have r2 := Nat.eq_of_beq_eq_true hr.1.2
    have r3 := Nat.eq_of_beq_eq_true hr.2
    subst r1 r2 r3
    obtain ⟨k2, h7, rfl⟩ := hc
    rw [h2] at h7
    injection h7 with h7
    subst h7
    exact ⟨us, cur, h1, rfl, h4, h5, h6⟩
  · cases hr
theorem f_appR {cl : Call} {x y : Operand} {t e : TypeId} {m bytes b off k b' off' q : Nat} {cap cap' : Cap} {z ns os : List V} {ob ob' : Ob} {wl : List Nat} {pc : List (X × Bool)} (hF : FRel E F FL) (hfr : Fr ⟨n, []⟩ a FL) (hw : Wr w0 E H.get w) (fn : E.ν c = none) (fk : E.κ c = none) (ho : o.op = .call cl) (hc : cl.callee = .builtin .append) (hca : cl.args.toList = [x, y]) (hct : cl.argTypes.toList = [t, t]) (he : elw P t = some (e, m, bytes, z)) (hx : eo F x = some (.sl b off q cap)) (hy : eo F y = some (.sl b' off' k cap'))
    (hb' : H.get b' = some ob') (hp : prt ob'.cells off' (Nat.mul k m) = some ns) (h1 : ones ns = true) (hb : H.get b = some ob) (hf : fits q k bytes = true) (hp2 : prt ob.cells off (Nat.mul q m) = some os) (h0 : Nat.beq off 0 = true) (hoe : Nat.beq ob.e e = true) (hr : roomOk ob cap m = true) :
    Eff P w0 E H c o a w (.sl c 0 (Nat.add q k) (.u c 0)) ⟨(H.put b none).put c (some ⟨ap os ns, e, some (.u c 0, m)⟩), Nat.succ c, ins b wl, pc⟩ := by
  obtain ⟨q1, q2, i, zz, q3, q4, q5, q6, q7, q8⟩ := elw_ok he
  obtain ⟨u1, e1, g, cp, hg, hcp, hqc, rfl⟩ := eo_ok hF hx
  obtain ⟨v1, e2, g1, cp1, hg1, _, _, rfl⟩ := eo_ok hF hy
  have h0 := Nat.eq_of_beq_eq_true h0
  subst h0
  have hoe := Nat.eq_of_beq_eq_true hoe
  obtain ⟨news, n1, n2, n3⟩ := app_src hw hb' hg1 hp
  unfold fits at hf
  rw [Bool.and_eq_true] at hf
  have f1 := Nat.le_of_ble_eq_true hf.1
  have f2 := Nat.le_of_ble_eq_true hf.2
  obtain ⟨gx, obj, l1, l2, l3⟩ := hw.lr b ob hb
  rw [hg] at l1
  injection l1 with l1
  subst l1
  obtain ⟨us, cur, m1, rfl, m3, m4, m5⟩ := room_ok l3 hr hcp
  obtain ⟨p1, p2, p3⟩ := prt_ok hp2 m1
  rw [← m1.len] at p1
  simp only [Nat.mul_eq, Nat.zero_add, List.drop_zero] at p1 p2 p3
  have hol : (us.take (q * m)).length = q * m := by rw [List.length_take]; omega
  have htk0 : cur.toList.take (q * m) = us.take (q * m) := by
    conv => rhs; rw [← m3]
    rw [List.take_take, Nat.min_eq_left p1]
  rw [hoe] at l2
  have hown : w.ownsRow 0 e m (.slice (some ⟨g, 0, none⟩) q cp) q (us.take (q * m)) := ⟨hol, .inr ⟨g, cp, cur, rfl, Nat.zero_le _, l2, hqc, m5, m4, htk0⟩⟩
  obtain ⟨v', w', hrun, hrow, hgrow, hnil, hat⟩ := run_append_own_at (P := P) w 0 t o.type e i zz m bytes q1 q3 q4 q5 q6 q7 q2 _ q _ hown ⟨g1, off', none⟩ k cp1 news n2 n3 (ones_ok n1 h1) f2 f1 (Nat.zero_le _)
  obtain ⟨hl, hcase⟩ := hrow
  rcases hcase with ⟨rfl, h0⟩ | ⟨g', cap2, cur', rfl, _, hgh, hnc, hcm, hsz, htk⟩
  · have := hnil.1 rfl; cases this.1
  · have hex := ext_new fn fk g' (some cap2)
    refine ⟨_, w', E.new c g' (some cap2), .inl (run_append_call hfr ho hc hca hct e1 e2 hrun), nx_app hw fn fk hb hg (agree_of hgrow) (by simp [Value.ownBlock] at hat; omega) hgh ?_ wl, ⟨g', cap2, new_ν E c _ _, ⟨cap2, new_κ E c _ _, rfl⟩, hnc, rfl⟩⟩
    refine ⟨us.take (q * m) ++ news, cur', cap2, ?_, ⟨cap2, new_κ E c _ _, rfl⟩, rfl, ?_, hsz, hcm⟩
    · show VRs _ (ap os ns) _
      rw [ap_eq]
      exact VRs.app (VRs.mono hex _ _ p3) (VRs.mono hex _ _ n1)
    · rw [hl]; exact htk
theorem f_appG {cl : Call} {x y : Operand} {t e : TypeId} {m bytes b off k b' off' q : Nat} {cap cap' : Cap} {z ns os : List V} {ob ob' : Ob} {wl : List Nat} {pc : List (X × Bool)} (hF : FRel E F FL) (hfr : Fr ⟨n, []⟩ a FL) (hw : Wr w0 E H.get w) (fn : E.ν c = none) (fk : E.κ c = none) (ho : o.op = .call cl) (hc : cl.callee = .builtin .append) (hca : cl.args.toList = [x, y]) (hct : cl.argTypes.toList = [t, t]) (he : elw P t = some (e, m, bytes, z)) (hx : eo F x = some (.sl b off q cap)) (hy : eo F y = some (.sl b' off' k cap'))
    (hb' : H.get b' = some ob') (hk : Nat.blt 0 k = true) (hp : prt ob'.cells off' (Nat.mul k m) = some ns) (h1 : ones ns = true) (hb : H.get b = some ob) (hf : fits q k bytes = true) (hp2 : prt ob.cells off (Nat.mul q m) = some os) (hr : noRoom cap q = true) :
    Eff P w0 E H c o a w (.sl c 0 (Nat.add q k) (.u c 0)) (Mm.new ⟨H, c, wl, pc⟩ ⟨ap os ns, e, some (.u c 0, m)⟩) := by
  obtain ⟨q1, q2, i, zz, q3, q4, q5, q6, q7, q8⟩ := elw_ok he
  obtain ⟨u1, e1, g, cp, hg, hcp, hqc, rfl⟩ := eo_ok hF hx
  obtain ⟨v1, e2, g1, cp1, hg1, _, _, rfl⟩ := eo_ok hF hy
  obtain ⟨news, n1, n2, n3⟩ := app_src hw hb' hg1 hp
  obtain ⟨olds, m1, m2, m3⟩ := app_src hw hb hg hp2
  have hk := Nat.le_of_ble_eq_true hk
  unfold fits at hf
  rw [Bool.and_eq_true] at hf
  have f1 := Nat.le_of_ble_eq_true hf.1
  have f2 := Nat.le_of_ble_eq_true hf.2
  have hcq : cp = q := by
    unfold noRoom at hr
    split at hr
    · rw [show cp = _ from hcp, Nat.eq_of_beq_eq_true hr]
    · cases hr
  subst hcq
  obtain ⟨v', w', hrun, hrow, hgrow⟩ := run_append_arg_grows (P := P) w t o.type e i zz m bytes q1 q3 q4 q5 q6 q7 q2 ⟨g, off, none⟩ cp cp olds m2 m3 ⟨g1, off', none⟩ k cp1 news n2 n3 (by omega) f2 f1
  obtain ⟨hl, hcase⟩ := hrow
  rcases hcase with ⟨rfl, h0⟩ | ⟨g', cap2, cur', rfl, hg', hgh, hnc, hcm, hsz, htk⟩
  · omega
  · have hex := ext_new fn fk g' (some cap2)
    refine ⟨_, w', E.new c g' (some cap2), .inl (run_append_call hfr ho hc hca hct e1 e2 hrun), nx_new hw fn fk (agree_of0 hgrow) hg' hgh ?_ wl, ⟨g', cap2, new_ν E c _ _, ⟨cap2, new_κ E c _ _, rfl⟩, hnc, rfl⟩⟩
    refine ⟨olds ++ news, cur', cap2, ?_, ⟨cap2, new_κ E c _ _, rfl⟩, rfl, ?_, hsz, hcm⟩
    · show VRs _ (ap os ns) _
      rw [ap_eq]
      exact VRs.app (VRs.mono hex _ _ m1) (VRs.mono hex _ _ n1)
    · rw [hl]; exact htk
theorem f_appZ {cl : Call} {x y : Operand} {t t' e : TypeId} {kd kd' : IntKind} {m bytes k : Nat} {z : List V} {wl : List Nat} {pc : List (X × Bool)} (hF : FRel E F FL) (hfr : Fr ⟨n, []⟩ a FL) (hw : Wr w0 E H.get w) (fn : E.ν c = none) (fk : E.κ c = none) (ho : o.op = .call cl) (hc : cl.callee = .builtin .append) (hca : cl.args.toList = [x, y]) (hct : cl.argTypes.toList = [t, t']) (he : elw P t = some (e, m, bytes, z)) (hx : eo F x = some .nsl) (hy : eo F y = some (.int kd (.lit (.ofNat k)))) (htn : ikv P t' = some kd') (hk : Nat.blt 0 k = true) (hf : fits 0 k bytes = true) :
    Eff P w0 E H c o a w (.sl c 0 k (.u c 0)) (Mm.new ⟨H, c, wl, pc⟩ ⟨rep k z, e, some (.u c 0, m)⟩) := by
  obtain ⟨q1, q2, i, zz, q3, q4, q5, q6, q7, q8⟩ := elw_ok he
  obtain ⟨u1, e1, r1⟩ := eo_ok hF hx
  rw [show u1 = .slice none 0 0 from r1] at e1
  obtain ⟨v1, e2, r2⟩ := eo_ok hF hy
  rw [show v1 = .int kd (k : Int) from r2] at e2
  have hk : 0 < k := Nat.le_of_ble_eq_true hk
  unfold fits at hf
  rw [Bool.and_eq_true] at hf
  have f1 := Nat.le_of_ble_eq_true hf.1
  have f2 := Nat.le_of_ble_eq_true hf.2
  simp only [Nat.add_eq, Nat.mul_eq, Nat.zero_add] at f1 f2
  have hrun := Lib.run_append_nil_zeros (P := P) w t t' o.type e i zz kd kd' q1 (ikv_ok htn) q3 q4 k hk (by omega) (by simp only [maxLen] at f2; omega) (by rw [q6]; omega)
  have hex := ext_new fn fk w.heap.size (some (grownCap w k 0 e))
  have ha1 : cl.args = #[x, y] := Array.toList_inj.1 (by simpa using hca)
  have ha2 : cl.argTypes = #[t, t'] := Array.toList_inj.1 (by simpa using hct)
  have hge := grownCap_ge w k 0 e
  have hcm : grownCap w k 0 e ≤ maxLen := grownCap_le_maxLen w k 0 e f2
  have hag : Agree [] w (w.drew.alloc (.cells (Builtin.zeroCells zz.cells k ++ Builtin.zeroCells zz.cells (grownCap w k 0 e - k)) e)) := ⟨rfl, rfl, rfl, by simp, fun b hb _ => heap_alloc_old w.drew _ hb⟩
  refine ⟨.slice (some ⟨w.heap.size, 0, none⟩) k (grownCap w k 0 e), w.drew.alloc (.cells (Builtin.zeroCells zz.cells k ++ Builtin.zeroCells zz.cells (grownCap w k 0 e - k)) e), E.new c w.heap.size (some (grownCap w k 0 e)), .inl ?_, nx_new hw fn fk hag (Nat.le_refl _) (heap_alloc_new w.drew _) ?_ wl, ⟨_, grownCap w k 0 e, new_ν E c _ _, ⟨_, new_κ E c _ _, rfl⟩, hge, rfl⟩⟩
  · simp only [execOp, ho, resolve, hc, ha1, ha2, Sem.run_bind, Sem.run_pure, Result.andThen_ok, invoke, builtin, List.map_toArray, List.map_cons, List.map_nil, hfr.ev e1, hfr.ev e2, hrun]
  · have hm : (Builtin.zeroCells zz.cells k).toList = rep k zz.cells.toList := by
      have := made_eq zz.cells k m q7 q2
      rw [← this, ← q7]
      rfl
    have hlen : (rep k zz.cells.toList).length = k * m := by rw [(rep_eq k zz.cells.toList).1, Array.length_toList, q7]
    have hz2 : (Builtin.zeroCells zz.cells (grownCap w k 0 e - k)).size = (grownCap w k 0 e - k) * m := by simp [Builtin.zeroCells, q7]
    refine ⟨rep k zz.cells.toList, _, grownCap w k 0 e, (q8 _).rep_ k, ⟨_, new_κ E c _ _, rfl⟩, rfl, ?_, ?_, hcm⟩
    · rw [Array.toList_append, hm]; exact List.take_left
    · rw [Array.size_append, hz2, ← Array.length_toList, hm, hlen, ← Nat.add_mul]
      congr 1
      omega
theorem f_copy {cl : Call} {x y : Operand} {t t' e : TypeId} {bytes b off len b' off' len' : Nat} {cap cap' : Cap} {z ns cs : List V} {ob ob' : Ob} {wl : List Nat} {pc : List (X × Bool)} (hF : FRel E F FL) (hfr : Fr ⟨n, []⟩ a FL) (hw : Wr w0 E H.get w) (ho : o.op = .call cl) (hc : cl.callee = .builtin .copy) (hca : cl.args.toList = [x, y]) (hct : cl.argTypes.toList = [t, t']) (he : elw P t = some (e, 1, bytes, z)) (hx : eo F x = some (.sl b off len cap)) (hy : eo F y = some (.sl b' off' len' cap'))
    (hb : H.get b = some ob) (hb' : H.get b' = some ob') (hp : prt ob'.cells off' (Nat.min len' len) = some ns) (h1 : ones ns = true) (hu : upd ob.cells off ns = some cs) :
    Eff P w0 E H c o a w (.int .i64 (.lit (.ofNat (Nat.min len' len)))) (Mm.set ⟨H, c, wl, pc⟩ b ⟨cs, ob.e, ob.more⟩) := by
  obtain ⟨q1, q2, i, zz, q3, q4, q5, q6, q7, q8⟩ := elw_ok he
  obtain ⟨u1, e1, g, cp, hg, hcp, hqc, rfl⟩ := eo_ok hF hx
  obtain ⟨v1, e2, g1, cp1, hg1, _, _, rfl⟩ := eo_ok hF hy
  obtain ⟨news, n1, n2, n3⟩ := app_src (k := Nat.min len' len) (m := 1) hw hb' hg1 (by rw [Nat.mul_eq, Nat.mul_one]; exact hp)
  rw [Nat.mul_one] at n2
  obtain ⟨gx, obj, l1, l2, l3⟩ := hw.lr b ob hb
  rw [hg] at l1
  injection l1 with l1
  subst l1
  obtain ⟨cur, rfl, k1, k2⟩ := or_upd l3 hu n1
  have hs : (P.info? e).map (·.size) = some 1 := by rw [q3]; simp [q5]
  have hrun := run_copy_row (P := P) w t t' o.type e g off len cp ⟨g1, off', none⟩ len' cp1 cur ob.e news q1 hs l2 n2 n3 k1 (ones_ok n1 h1)
  have ha1 : cl.args = #[x, y] := Array.toList_inj.1 (by simpa using hca)
  have ha2 : cl.argTypes = #[t, t'] := Array.toList_inj.1 (by simpa using hct)
  have hr : (execOp a.eval o).run P w = .ok (.value (goInt news.length)) (w.setRow g (cur.toList.take off ++ news ++ cur.toList.drop (off + news.length)).toArray) := by
    simp only [execOp, ho, resolve, hc, ha1, ha2, Sem.run_bind, Sem.run_pure, Result.andThen_ok, invoke, builtin, List.map_toArray, List.map_cons, List.map_nil, hfr.ev e1, hfr.ev e2, hrun]
  have hag : Agree [g] w (w.setRow g (cur.toList.take off ++ news ++ cur.toList.drop (off + news.length)).toArray) := by
    refine ⟨rfl, rfl, rfl, by simp [World.setRow], fun k hk hn => ?_⟩
    simp only [World.setRow, Array.getElem?_modify]
    rw [if_neg (fun e => hn (by rw [e]; exact List.mem_singleton_self _))]
  refine ⟨goInt news.length, _, E, .inl hr, nx_set hw hb hg hag ?_ (k2 (cur.toList.take off ++ news ++ cur.toList.drop (off + news.length)).toArray (by simp)) wl, ?_⟩
  · simp [World.setRow, Array.getElem?_modify, l2]
  · rw [n2]; rfl
theorem blt0 : ∀ q, Nat.blt 0 q = false → q = 0
  | 0, _ => rfl
  | q + 1, h => by cases h
theorem eopK_eq (op : Op) (P : Program) (F : Fm) (H : PT Ob) (c : Nat) (wl : List Nat) (pc : List (X × Bool)) (d : Option Nat) : eopK op P F H c wl pc d = eop P F ⟨H, c, wl, pc⟩ d op := by
  cases op <;> rfl
theorem eop_ok {M M' : Mm} {op : Op} {d : Option Nat} {v : V} (hF : FRel E F FL) (hfr : Fr ⟨n, []⟩ a FL) (hw : Wr w0 E M.H.get w) (ho : o.op = op) (h : eop P F M d op = some (v, M')) (hfs : Fresh E M.c M'.c) : Eff P w0 E M.H M.c o a w v M' := by
  obtain ⟨H, c, wl, pc⟩ := M
  unfold eop at h
  dsimp only at h
  split at h
  · unfold r_alloc at h
    split at h <;> first | (cases h; done) | skip
    rename_i h1
    cases h
    exact f_alloc hF hfr hw (hfs _ (Nat.le_refl _) (Nat.lt_succ_self _)).1 (hfs _ (Nat.le_refl _) (Nat.lt_succ_self _)).2 ho h1
  · unfold r_box at h
    split at h <;> first | (cases h; done) | skip
    rename_i h1
    cases h
    exact f_box hF hfr hw (hfs _ (Nat.le_refl _) (Nat.lt_succ_self _)).1 (hfs _ (Nat.le_refl _) (Nat.lt_succ_self _)).2 ho h1
  · unfold r_store at h
    split at h <;> first | (cases h; done) | skip
    rename_i h1 h2 h3
    split at h <;> first | (cases h; done) | skip
    rename_i h4 h5 h6
    split at h <;> first | (cases h; done) | skip
    rename_i h7
    cases h
    exact f_store hF hfr hw ho h1 h2 h3 h4 h5 h6 h7
  · unfold r_bsl at h
    split at h <;> first | (cases h; done) | skip
    rename_i h1 h2
    split at h <;> first | (cases h; done) | skip
    rename_i h3 h4
    cases h
    exact f_bslice hF hfr hw (hfs _ (Nat.le_refl _) (Nat.lt_succ_self _)).1 (hfs _ (Nat.le_refl _) (Nat.lt_succ_self _)).2 ho h1 h2 h3 h4
  · unfold r_msl at h
    split at h <;> first | (cases h; done) | skip
    rename_i h1 h2 h3
    split at h <;> first | (cases h; done) | skip
    rename_i h4 h5
    cases h
    exact f_mslice hF hfr hw (hfs _ (Nat.le_refl _) (Nat.lt_succ_self _)).1 (hfs _ (Nat.le_refl _) (Nat.lt_succ_self _)).2 ho h1 h2 h3 h4 h5
  · unfold r_call at h
    split at h <;> first | (cases h; done) | skip
    · rename_i hc hca hct
      split at h <;> first | (cases h; done) | skip
      · rename_i h1 h2 h3 h4
        have h1 := Nat.eq_of_beq_eq_true h1
        subst h1
        split at h <;> first | (cases h; done) | skip
        · split at h <;> first | (cases h; done) | skip
          · cases h
            exact f_app0 hF hfr hw ho hc hca hct h2 h3 h4 (.inl rfl) (.inl rfl)
          · cases h
            exact f_app0 hF hfr hw ho hc hca hct h2 h3 h4 (.inr ⟨_, _, _, _, rfl⟩) (.inl rfl)
        · split at h <;> first | (cases h; done) | skip
          · rename_i h5 h6
            split at h <;> first | (cases h; done) | skip
            rename_i h7
            split at h <;> first | (cases h; done) | skip
            · rename_i h8
              split at h <;> first | (cases h; done) | skip
              rename_i h9
              cases h
              exact f_appN hF hfr hw (hfs _ (Nat.le_refl _) (Nat.lt_succ_self _)).1 (hfs _ (Nat.le_refl _) (Nat.lt_succ_self _)).2 ho hc hca hct h2 h3 h4 h5 h6 h7 h8 h9
            · rename_i h8
              split at h <;> first | (cases h; done) | skip
              rename_i h9 h10
              split at h <;> first | (cases h; done) | skip
              · rename_i h11 h12
                cases h
                exact f_appG hF hfr hw (hfs _ (Nat.le_refl _) (Nat.lt_succ_self _)).1 (hfs _ (Nat.le_refl _) (Nat.lt_succ_self _)).2 ho hc hca hct h2 h3 h4 h5 h6 h7 h8 h9 h10 h11 h12
              rename_i h11 _ h12 h13 h14
              cases h
              exact f_appR hF hfr hw (hfs _ (Nat.le_refl _) (Nat.lt_succ_self _)).1 (hfs _ (Nat.le_refl _) (Nat.lt_succ_self _)).2 ho hc hca hct h2 h3 h4 h5 h7 h8 h9 h10 h11 h12 h13 h14
          · rename_i h5 h6
            rw [blt0 _ h6] at h4
            split at h <;> first | (cases h; done) | skip
            · cases h
              exact f_app0 hF hfr hw ho hc hca hct h2 h3 h4 (.inl rfl) (.inr ⟨_, _, _, rfl⟩)
            · cases h
              exact f_app0 hF hfr hw ho hc hca hct h2 h3 h4 (.inr ⟨_, _, _, _, rfl⟩) (.inr ⟨_, _, _, rfl⟩)
      · rename_i h1 h2 h3 h4
        split at h <;> first | (cases h; done) | skip
        rename_i h5 h6 h7
        cases h
        exact f_appZ hF hfr hw (hfs _ (Nat.le_refl _) (Nat.lt_succ_self _)).1 (hfs _ (Nat.le_refl _) (Nat.lt_succ_self _)).2 ho hc hca hct h2 h3 h4 h5 h6 h7
    · rename_i hc hca hct
      split at h <;> first | (cases h; done) | skip
      rename_i h2 h3 h4
      split at h <;> first | (cases h; done) | skip
      rename_i h5 h6
      split at h <;> first | (cases h; done) | skip
      rename_i h7
      split at h <;> first | (cases h; done) | skip
      rename_i h8 h9
      cases h
      exact f_copy hF hfr hw ho hc hca hct h2 h3 h4 h5 h6 h7 h8 h9
  · cases h
end
end Go.Run
