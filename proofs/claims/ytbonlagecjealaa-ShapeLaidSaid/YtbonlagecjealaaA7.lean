/-
Own text, put together by an own program (shake.py) out of this claim's texts: what its theorem needs of them.
-/
import Derived.Test.YtbonlagecjealaaA6
namespace Go.Proofs.Ytbonlagecjealaa.GSeq
open Go.RowKit Go.Proofs.YtbonlagecjealaaW.PrintWords Go.Proofs.YtbonlagecjealaaW.PrintLast Go.Proofs.YtbonlagecjealaaW.PrintMore
attribute [local go_sem] max2_int min2_int max_two min_two max_three min_three max_four min_four   -- for this text's walks alone
set_option linter.unusedVariables false
set_option linter.unusedSimpArgs false
def errW : Option Int → Value
  | none => .nilIface
  | some c => .iface 0 (.int .i64 c)
theorem errW_none : errW none = .nilIface := rfl
theorem errW_some (c : Int) : errW (some c) = .iface 0 (.int .i64 c) := rfl
theorem info61 : (Try.prog.info? 61).map (fun i => (i.zero, i.size, i.bytes)) = some (some (.agg #[(.int .u64 0), (.int .u64 0)]), 2, 16) := by kernel_rfl
structure S61 where
  f0 : Int
  f1 : Int
def z61 : S61 := ⟨(0 : Int), (0 : Int)⟩
def k61 : Kd S61 := Kd.iso (Kd.pair (Kd.int .u64) (Kd.int .u64)) (fun x : S61 => (x.f0, x.f1))
theorem k61_open {w : World} {x : S61} {cs : List Value} (h : k61.K w x cs) : cs = [.int .u64 x.f0, .int .u64 x.f1] := by
  obtain ⟨_, _, rfl, rfl, rfl⟩ := h
  exact rfl
theorem k61_openM {w : World} {base : Nat} {ok : Nat → Prop} {x : S61} {cs : List Value} (h : k61.M w base ok x cs) : cs = [.int .u64 x.f0, .int .u64 x.f1] := by
  obtain ⟨_, _, rfl, rfl, rfl⟩ := h
  exact rfl
theorem k61_mkM (w : World) (base : Nat) (ok : Nat → Prop) (x : S61)  : k61.M w base ok x [.int .u64 x.f0, .int .u64 x.f1] := ⟨[.int .u64 x.f0], [.int .u64 x.f1], rfl, rfl, rfl⟩
def rd_T61 (xs : List S61) (i : Int) : S61 := xs.getD i.toNat z61
theorem at_T61 {w : World} {A : Option Addr} {n : Nat} {xs : List S61} (h : Kd.C k61 w A n xs) (i : Int) (h0 : 0 ≤ i) (h1 : i < n) : ∃ ad , A = some ad ∧ w.cell? (ad.add (i.toNat * 2)) = some (.int .u64 (rd_T61 xs i).f0) ∧ w.cell? ⟨(ad.add (i.toNat * 2)).block, (ad.add (i.toNat * 2)).off + 1, none⟩ = some (.int .u64 (rd_T61 xs i).f1) := by
  obtain ⟨ad, c, e, _, hK, hc0⟩ := Kd.C_get h z61 i h0 h1
  have hc : ∀ j u, c[j]? = some u → w.cell? (ad.add (i.toNat * 2 + j)) = some u := hc0
  obtain rfl := k61_open hK
  exact ⟨ad, e, hc 0 _ rfl, by rw [← add_field _ _ 1 (by omega)]; exact hc 1 _ rfl⟩
end Go.Proofs.Ytbonlagecjealaa.GSeq
namespace Go.Proofs.Ytbonlagecjealaa.GSeq
open Go.RowKit Go.Proofs.YtbonlagecjealaaW.PrintWords Go.Proofs.YtbonlagecjealaaW.PrintLast Go.Proofs.YtbonlagecjealaaW.PrintMore
attribute [local go_sem] max2_int min2_int max_two min_two max_three min_three max_four min_four   -- for this text's walks alone
set_option linter.unusedVariables false
set_option linter.unusedSimpArgs false
def seq_Pair_32.f (l0 : List (S61)) : Option ((List (S61))) := (some (([] : List (S61)) : List (S61))).bind fun y101 => (if y101.length + l0.length < 8796093022208 then (some (y101 ++ l0)) else (none))
set_option maxHeartbeats 8000000 in
set_option maxRecDepth 100000 in
theorem seq_Pair_32.calls1 (ad0 : Addr) (c0 : Nat) (l0 : List (S61)) (r : List (S61)) (w : World) (hr0 : Kd.C k61 w (some ad0) l0.length l0) (hc0 : l0.length ≤ c0) (h : seq_Pair_32.f l0 = some r) :
    Calls Try.prog 32 #[.slice (some ad0) l0.length c0] w fun e w' => ∃ v0_ : Value, e = .returned (v0_) ∧ Kd.R k61 61 w' w.heap.size (fun _ => True) v0_ r ∧ Below w.heap.size w w' := by
  have heq := fun (W : World) => Lib.run_eql_slice_nil (P := Try.prog) W 35 61 (some ad0) l0.length c0 0 0 Try.underlying35
  have HR0 := Aside0.mk hr0
  have HC0 := Aside0.mk hc0
  clear hr0 hc0
  have HB := Aside0.mk (Below.refl w.heap.size w)
  have H : ((some (([] : List (S61)) : List (S61))).bind fun y101 => (if y101.length + l0.length < 8796093022208 then (some (y101 ++ l0)) else (none))) = some r := h
  clear h
  obtain ⟨y101, hy101⟩ : ∃ y_ : List (S61), y_ = (([] : List (S61))) := ⟨_, rfl⟩
  replace H : (if y101.length + l0.length < 8796093022208 then (some (y101 ++ l0)) else (none)) = some r := by first | (rw [hy101]; with_reducible exact H) | (have H2_ := (Option.bind_some _ _).symm.trans H; rw [hy101]; with_reducible exact H2_) | (have H2_ := (Option.bind_some _ _).symm.trans H; with_reducible exact H2_) | with_reducible exact H | (rw [hy101]; exact H) | exact H
  have Ny101 := Aside0.mk hy101
  clear hy101
  by_cases c2 : y101.length + l0.length < 8796093022208
  · rw [if_pos c2] at H
    have LMc2 := Aside0.mk c2
    clear c2
    obtain ⟨y104, hy104⟩ : ∃ y_ : List (S61), y_ = (y101 ++ l0) := ⟨_, rfl⟩
    replace H : (some y104) = some r := by first | (rw [hy104]; with_reducible exact H) | (have H2_ := (Option.bind_some _ _).symm.trans H; rw [hy104]; with_reducible exact H2_) | (have H2_ := (Option.bind_some _ _).symm.trans H; with_reducible exact H2_) | with_reducible exact H | (rw [hy104]; exact H) | exact H
    have Ny104 := Aside0.mk hy104
    clear hy104
    obtain rfl := Option.some.inj H
    go_enter Try.func32, Try.ntmps32
    go_wp2_with (first | ((with_reducible refine gate_dst (N := 5) rfl ?_); refine Kd.R_lit k61 _ 61 ?hg (N := 5) ?hd (xs := ([] : List (S61))) (inner := []) (ok := fun _ => True) (okp := fun _ => True) ?hr ?hp (fun _ hk => hk) trivial (Below.refl _ _) (Nat.le_refl _) (by simp) ?_; (case hd => rfl); (case hg => rfl); (case hr => first | (go_simp; done) | (go_simp; rfl)); (case hp => exact (Reps.none _ _)); intro v102 w3 ho4 hb hg_ hnew_; clear hg_ hnew_; (first | rw [← Ny101.out] at ho4 | (simp only [Int.reduceToNat] at ho4; rw [← Ny101.out] at ho4)); have n0_ := Aside0.mk (Kd.R_lower ho4 (below_size (by repeat (first | (with_reducible first | exact HB.out | apply below_alloc | apply pw_below_drewN | apply below_drew1) | exact HB.out)))); have n1_ := Aside0.mk (below_step (by repeat (first | (with_reducible first | exact HB.out | apply below_alloc | apply pw_below_drewN | apply below_drew1) | exact HB.out)) hb); clear HB; have HO103 := n0_; have HB := n1_; clear n0_ n1_; clear hb ho4) | ((with_reducible refine gate_builtin (b := .append) (xs := #[.tmp 5, .tmp 6]) rfl ?_); at_builtin; refine Kd.R_append_rows k61 (w0 := w) w.heap.size rfl (.tmp 5) (.tmp 6) 35 61 (.agg #[(.int .u64 0), (.int .u64 0)]) 16 rfl Try.underlying35 info61 rfl (by decide) (by omega) v102 y101 l0 _ _ _ (fun _ => True) (fun _ => False) rfl rfl ?aO ?aR (fun _ _ h => h) (fun _ h => h.elim) ?aF ?aB ?aS ?aL ?_; (case aR => repeat (first | exact (Kd.C_below HR0.out HB.out) | (with_reducible refine Kd.C_alloc ?_ _) | (with_reducible refine Kd.C_drewN ?_ _) | (with_reducible refine Kd.C_drew ?_))); (case aB => exact (by repeat (first | (with_reducible first | exact HB.out | apply below_alloc | apply pw_below_drewN | apply below_drew1) | exact HB.out))); (case aF => exact (fun _ _ => trivial)); (case aO => exact (by (with_reducible repeat (first | apply Kd.R_alloc | apply Kd.R_drewN | apply Kd.R_drew)); exact HO103.out)); (case aS => exact (below_size (by repeat (first | (with_reducible first | exact HB.out | apply below_alloc | apply pw_below_drewN | apply below_drew1) | exact HB.out)))); (case aL => have := LMc2.out; omega); intro v105 w5 ho hb hg hat; rw [← Ny104.out] at ho; have n0_ := Aside0.mk (hb); have n1_ := Aside0.mk (ho); clear HB; clear HO103; have HB := n0_; have HO106 := n1_; clear n0_ n1_; clear ho hb hg hat))
    go_ret
    exact ⟨_, by first | rfl | (simp [errW_none, errW_some] <;> rfl) | (simp [*, errW_none, errW_some] <;> rfl), by (with_reducible repeat (first | apply Kd.R_alloc | apply Kd.R_drewN | apply Kd.R_drew)); exact HO106.out, by repeat (first | (with_reducible first | exact HB.out | apply below_alloc | apply pw_below_drewN | apply below_drew1) | exact HB.out)⟩
  · rw [if_neg c2] at H
    exact absurd H (by simp)
set_option maxRecDepth 100000 in
theorem seq_Pair_32.calls (A0 : Option Addr) (c0 : Nat) (l0 : List (S61)) (r : List (S61)) (w : World) (hr0 : Kd.C k61 w A0 l0.length l0) (hc0 : l0.length ≤ c0) (h : seq_Pair_32.f l0 = some r) :
    Calls Try.prog 32 #[.slice A0 l0.length c0] w fun e w' => ∃ v0_ : Value, e = .returned (v0_) ∧ Kd.R k61 61 w' w.heap.size (fun _ => True) v0_ r ∧ Below w.heap.size w w' := by
  cases A0 with
  | some ad0 => exact seq_Pair_32.calls1 ad0 c0 l0 r w hr0 hc0 h
  | none =>
    have hn : l0 = [] := by
      by_cases h0 : 0 < l0.length
      · obtain ⟨_, e, _⟩ := hr0.2.2 h0
        cases e
      · exact List.length_eq_zero_iff.1 (by omega)
    subst hn
    have hr : r = [] := by
      have h2 : (if (0 : Nat) + 0 < 8796093022208 then some ([] : List S61) else none) = some r := by unfold seq_Pair_32.f at h; simpa using h
      rw [if_pos (by decide)] at h2
      exact (Option.some.inj h2).symm
    subst hr
    have heq := fun (W : World) => Lib.run_eql_slice_nil (P := Try.prog) W 35 61 none 0 c0 0 0 Try.underlying35
    clear hr0 hc0 h
    go_enter Try.func32, Try.ntmps32
    go_wp2
    go_ret
    exact ⟨_, rfl, Kd.R_nil _ _ _ _ _, Below.refl _ _⟩
def cmp_isNaN_uint64.f (a0 : Int) : Option (Bool) := some (a0 != a0)
set_option maxHeartbeats 8000000 in
set_option maxRecDepth 100000 in
theorem cmp_isNaN_uint64.calls (a0 : Int) (r : Bool) (w : World) (h : cmp_isNaN_uint64.f a0 = some r) :
    Calls Try.prog 88 #[.int .u64 a0] w fun e w' => e = .returned (.bool r) ∧ Drawn0 w w' := by
  have H : (some (a0 != a0)) = some r := h
  clear h
  obtain rfl := Option.some.inj H
  go_enter Try.func88, Try.ntmps88
  go_wp2
  go_ret
  exact ⟨by first | rfl | (simp; done) | (simp [*]; done), by repeat (first | exact Drawn0.refl _ | apply Drawn0.step)⟩
def cmp_Compare_uint64.f (a0 : Int) (a1 : Int) : Option (Int) := (cmp_isNaN_uint64.f a0).bind fun t107 => ((cmp_isNaN_uint64.f a1).bind fun t108 => (if t107 = true then (if t108 = true then (some 0) else (some (-1))) else (if t108 = true then (some 1) else (if a0 < a1 then (some (-1)) else (if a0 > a1 then (some 1) else (some 0))))))
set_option maxHeartbeats 8000000 in
set_option maxRecDepth 100000 in
theorem cmp_Compare_uint64.calls (a0 : Int) (a1 : Int) (r : Int) (w : World) (h : cmp_Compare_uint64.f a0 a1 = some r) :
    Calls Try.prog 87 #[.int .u64 a0, .int .u64 a1] w fun e w' => e = .returned (.int .i64 r) ∧ Drawn0 w w' := by
  have H : ((cmp_isNaN_uint64.f a0).bind fun t107 => ((cmp_isNaN_uint64.f a1).bind fun t108 => (if t107 = true then (if t108 = true then (some 0) else (some (-1))) else (if t108 = true then (some 1) else (if a0 < a1 then (some (-1)) else (if a0 > a1 then (some 1) else (some 0))))))) = some r := h
  clear h
  replace H := Option.bind_eq_some_iff.mp H
  obtain ⟨t107, A30, H⟩ := H
  replace H : ((cmp_isNaN_uint64.f a1).bind fun t108 => (if t107 = true then (if t108 = true then (some 0) else (some (-1))) else (if t108 = true then (some 1) else (if a0 < a1 then (some (-1)) else (if a0 > a1 then (some 1) else (some 0)))))) = some r := H
  have A3 := Aside0.mk A30
  clear A30
  replace H := Option.bind_eq_some_iff.mp H
  obtain ⟨t108, A40, H⟩ := H
  replace H : (if t107 = true then (if t108 = true then (some 0) else (some (-1))) else (if t108 = true then (some 1) else (if a0 < a1 then (some (-1)) else (if a0 > a1 then (some 1) else (some 0))))) = some r := H
  have A4 := Aside0.mk A40
  clear A40
  by_cases c5 : t107 = true
  · subst c5
    have H1 : (if t108 = true then (some 0) else (some (-1))) = some r := by rw [if_pos rfl] at H; exact H
    clear H
    have H := H1
    clear H1
    by_cases c6 : t108 = true
    · subst c6
      have H1 : (some 0) = some r := by rw [if_pos rfl] at H; exact H
      clear H
      have H := H1
      clear H1
      obtain rfl := Option.some.inj H
      go_enter Try.func87, Try.ntmps87
      go_wp2_with (first | ((with_reducible refine gate_callee (f := 88) rfl ?_); refine goesL_ (some 8) rfl rfl Try.func88 (by kernel_rfl) rfl #[.int .u64 a0] rfl (by (try simp only [List.map_toArray, List.map_cons, List.map_nil]); first | done | rfl | (simp only [List.length_drop, List.length_take]; rfl)) ?_; (with_reducible refine (cmp_isNaN_uint64.calls a0 true _ A3.out).mono ?_); rintro e w' ⟨rfl, ⟨nd, rfl⟩⟩; refine ⟨_, rfl, ?_⟩) | ((with_reducible refine gate_callee (f := 88) rfl ?_); refine goesL_ (some 10) rfl rfl Try.func88 (by kernel_rfl) rfl #[.int .u64 a1] rfl (by (try simp only [List.map_toArray, List.map_cons, List.map_nil]); first | done | rfl | (simp only [List.length_drop, List.length_take]; rfl)) ?_; (with_reducible refine (cmp_isNaN_uint64.calls a1 true _ A4.out).mono ?_); rintro e w' ⟨rfl, ⟨nd, rfl⟩⟩; refine ⟨_, rfl, ?_⟩))
      go_ret
      exact ⟨by first | rfl | (simp; done) | (simp [*]; done), by repeat (first | exact Drawn0.refl _ | apply Drawn0.step)⟩
    · replace c6 := Bool.eq_false_iff.mpr c6
      subst c6
      have H1 : (some (-1)) = some r := by rw [if_neg (show ¬ (false = true) by decide)] at H; exact H
      clear H
      have H := H1
      clear H1
      obtain rfl := Option.some.inj H
      go_enter Try.func87, Try.ntmps87
      go_wp2_with (first | ((with_reducible refine gate_callee (f := 88) rfl ?_); refine goesL_ (some 8) rfl rfl Try.func88 (by kernel_rfl) rfl #[.int .u64 a0] rfl (by (try simp only [List.map_toArray, List.map_cons, List.map_nil]); first | done | rfl | (simp only [List.length_drop, List.length_take]; rfl)) ?_; (with_reducible refine (cmp_isNaN_uint64.calls a0 true _ A3.out).mono ?_); rintro e w' ⟨rfl, ⟨nd, rfl⟩⟩; refine ⟨_, rfl, ?_⟩) | ((with_reducible refine gate_callee (f := 88) rfl ?_); refine goesL_ (some 10) rfl rfl Try.func88 (by kernel_rfl) rfl #[.int .u64 a1] rfl (by (try simp only [List.map_toArray, List.map_cons, List.map_nil]); first | done | rfl | (simp only [List.length_drop, List.length_take]; rfl)) ?_; (with_reducible refine (cmp_isNaN_uint64.calls a1 false _ A4.out).mono ?_); rintro e w' ⟨rfl, ⟨nd, rfl⟩⟩; refine ⟨_, rfl, ?_⟩))
      go_ret
      exact ⟨by first | rfl | (simp; done) | (simp [*]; done), by repeat (first | exact Drawn0.refl _ | apply Drawn0.step)⟩
  · replace c5 := Bool.eq_false_iff.mpr c5
    subst c5
    have H1 : (if t108 = true then (some 1) else (if a0 < a1 then (some (-1)) else (if a0 > a1 then (some 1) else (some 0)))) = some r := by rw [if_neg (show ¬ (false = true) by decide)] at H; exact H
    clear H
    have H := H1
    clear H1
    by_cases c7 : t108 = true
    · subst c7
      have H1 : (some 1) = some r := by rw [if_pos rfl] at H; exact H
      clear H
      have H := H1
      clear H1
      obtain rfl := Option.some.inj H
      go_enter Try.func87, Try.ntmps87
      go_wp2_with (first | ((with_reducible refine gate_callee (f := 88) rfl ?_); refine goesL_ (some 8) rfl rfl Try.func88 (by kernel_rfl) rfl #[.int .u64 a0] rfl (by (try simp only [List.map_toArray, List.map_cons, List.map_nil]); first | done | rfl | (simp only [List.length_drop, List.length_take]; rfl)) ?_; (with_reducible refine (cmp_isNaN_uint64.calls a0 false _ A3.out).mono ?_); rintro e w' ⟨rfl, ⟨nd, rfl⟩⟩; refine ⟨_, rfl, ?_⟩) | ((with_reducible refine gate_callee (f := 88) rfl ?_); refine goesL_ (some 10) rfl rfl Try.func88 (by kernel_rfl) rfl #[.int .u64 a1] rfl (by (try simp only [List.map_toArray, List.map_cons, List.map_nil]); first | done | rfl | (simp only [List.length_drop, List.length_take]; rfl)) ?_; (with_reducible refine (cmp_isNaN_uint64.calls a1 true _ A4.out).mono ?_); rintro e w' ⟨rfl, ⟨nd, rfl⟩⟩; refine ⟨_, rfl, ?_⟩))
      go_ret
      exact ⟨by first | rfl | (simp; done) | (simp [*]; done), by repeat (first | exact Drawn0.refl _ | apply Drawn0.step)⟩
    · replace c7 := Bool.eq_false_iff.mpr c7
      subst c7
      have H1 : (if a0 < a1 then (some (-1)) else (if a0 > a1 then (some 1) else (some 0))) = some r := by rw [if_neg (show ¬ (false = true) by decide)] at H; exact H
      clear H
      have H := H1
      clear H1
      by_cases c8 : a0 < a1
      · rw [if_pos c8] at H
        have c8b0 : decide (a0 < a1) = true := decide_eq_true c8
        clear c8
        obtain rfl := Option.some.inj H
        go_enter Try.func87, Try.ntmps87
        go_wp2_with (first | ((with_reducible refine gate_callee (f := 88) rfl ?_); refine goesL_ (some 8) rfl rfl Try.func88 (by kernel_rfl) rfl #[.int .u64 a0] rfl (by (try simp only [List.map_toArray, List.map_cons, List.map_nil]); first | done | rfl | (simp only [List.length_drop, List.length_take]; rfl)) ?_; (with_reducible refine (cmp_isNaN_uint64.calls a0 false _ A3.out).mono ?_); rintro e w' ⟨rfl, ⟨nd, rfl⟩⟩; refine ⟨_, rfl, ?_⟩) | ((with_reducible refine gate_callee (f := 88) rfl ?_); refine goesL_ (some 10) rfl rfl Try.func88 (by kernel_rfl) rfl #[.int .u64 a1] rfl (by (try simp only [List.map_toArray, List.map_cons, List.map_nil]); first | done | rfl | (simp only [List.length_drop, List.length_take]; rfl)) ?_; (with_reducible refine (cmp_isNaN_uint64.calls a1 false _ A4.out).mono ?_); rintro e w' ⟨rfl, ⟨nd, rfl⟩⟩; refine ⟨_, rfl, ?_⟩))
        go_ret
        exact ⟨by first | rfl | (simp; done) | (simp [*]; done), by repeat (first | exact Drawn0.refl _ | apply Drawn0.step)⟩
      · rw [if_neg c8] at H
        have c8b0 : decide (a0 < a1) = false := decide_eq_false c8
        clear c8
        by_cases c9 : a0 > a1
        · rw [if_pos c9] at H
          have c9b0 : decide (a1 < a0) = true := decide_eq_true c9
          clear c9
          obtain rfl := Option.some.inj H
          go_enter Try.func87, Try.ntmps87
          go_wp2_with (first | ((with_reducible refine gate_callee (f := 88) rfl ?_); refine goesL_ (some 8) rfl rfl Try.func88 (by kernel_rfl) rfl #[.int .u64 a0] rfl (by (try simp only [List.map_toArray, List.map_cons, List.map_nil]); first | done | rfl | (simp only [List.length_drop, List.length_take]; rfl)) ?_; (with_reducible refine (cmp_isNaN_uint64.calls a0 false _ A3.out).mono ?_); rintro e w' ⟨rfl, ⟨nd, rfl⟩⟩; refine ⟨_, rfl, ?_⟩) | ((with_reducible refine gate_callee (f := 88) rfl ?_); refine goesL_ (some 10) rfl rfl Try.func88 (by kernel_rfl) rfl #[.int .u64 a1] rfl (by (try simp only [List.map_toArray, List.map_cons, List.map_nil]); first | done | rfl | (simp only [List.length_drop, List.length_take]; rfl)) ?_; (with_reducible refine (cmp_isNaN_uint64.calls a1 false _ A4.out).mono ?_); rintro e w' ⟨rfl, ⟨nd, rfl⟩⟩; refine ⟨_, rfl, ?_⟩))
          go_ret
          exact ⟨by first | rfl | (simp; done) | (simp [*]; done), by repeat (first | exact Drawn0.refl _ | apply Drawn0.step)⟩
        · rw [if_neg c9] at H
          have c9b0 : decide (a1 < a0) = false := decide_eq_false c9
          clear c9
          obtain rfl := Option.some.inj H
          go_enter Try.func87, Try.ntmps87
          go_wp2_with (first | ((with_reducible refine gate_callee (f := 88) rfl ?_); refine goesL_ (some 8) rfl rfl Try.func88 (by kernel_rfl) rfl #[.int .u64 a0] rfl (by (try simp only [List.map_toArray, List.map_cons, List.map_nil]); first | done | rfl | (simp only [List.length_drop, List.length_take]; rfl)) ?_; (with_reducible refine (cmp_isNaN_uint64.calls a0 false _ A3.out).mono ?_); rintro e w' ⟨rfl, ⟨nd, rfl⟩⟩; refine ⟨_, rfl, ?_⟩) | ((with_reducible refine gate_callee (f := 88) rfl ?_); refine goesL_ (some 10) rfl rfl Try.func88 (by kernel_rfl) rfl #[.int .u64 a1] rfl (by (try simp only [List.map_toArray, List.map_cons, List.map_nil]); first | done | rfl | (simp only [List.length_drop, List.length_take]; rfl)) ?_; (with_reducible refine (cmp_isNaN_uint64.calls a1 false _ A4.out).mono ?_); rintro e w' ⟨rfl, ⟨nd, rfl⟩⟩; refine ⟨_, rfl, ?_⟩))
          go_ret
          exact ⟨by first | rfl | (simp; done) | (simp [*]; done), by repeat (first | exact Drawn0.refl _ | apply Drawn0.step)⟩
def seq_Pair_to.f (a0_0 : Int) (a0_1 : Int) (a1 : Int) : Option (Int) := (cmp_Compare_uint64.f a0_0 a1).bind fun t110 => (some t110)
set_option maxHeartbeats 8000000 in
set_option maxRecDepth 100000 in
theorem seq_Pair_to.calls (a0_0 : Int) (a0_1 : Int) (a1 : Int) (r : Int) (w : World) (h : seq_Pair_to.f a0_0 a0_1 a1 = some r) :
    Calls Try.prog 86 #[.agg #[.int .u64 a0_0, .int .u64 a0_1], .int .u64 a1] w fun e w' => e = .returned (.int .i64 r) ∧ Below w.heap.size w w' := by
  have hu61 := Try.underlying61
  have HB := Aside0.mk (Below.refl w.heap.size w)
  have H : ((cmp_Compare_uint64.f a0_0 a1).bind fun t110 => (some t110)) = some r := h
  clear h
  replace H := Option.bind_eq_some_iff.mp H
  obtain ⟨t110, A30, H⟩ := H
  replace H : (some t110) = some r := H
  have A3 := Aside0.mk A30
  clear A30
  obtain rfl := Option.some.inj H
  go_enter Try.func86, Try.ntmps86
  go_wp2_with (first | ((with_reducible refine gate_dst (N := 2) rfl ?_); refine box_event ?hg (N := 2) ?hd (cs := #[.int .u64 a0_0, .int .u64 a0_1]) (t := 61) ?hr ?_; (case hd => rfl); (case hg => rfl); (case hr => first | (go_simp; done) | (go_simp; rfl)); intro gb109 hg w4 hbox hb; have n0_ := Aside0.mk (below_step (by repeat (first | (with_reducible first | exact HB.out | apply below_alloc | apply pw_below_drewN | apply below_drew1) | exact HB.out)) hb); have n1_ := Aside0.mk (hbox); have n2_ := Aside0.mk ((by rw [hg]; exact (below_size (by repeat (first | (with_reducible first | exact HB.out | apply below_alloc | apply pw_below_drewN | apply below_drew1) | exact HB.out))) : w.heap.size ≤ gb109)); have n3_ := Aside0.mk ((by rw [hg]; exact (below_size (by repeat (first | (with_reducible first | exact HB.out | apply below_alloc | apply pw_below_drewN | apply below_drew1) | exact HB.out))) : w.heap.size ≤ gb109)); clear HB; have HB := n0_; have BK109 := n1_; have GW109 := n2_; have GE109 := n3_; clear n0_ n1_ n2_ n3_; clear hb hbox hg; have hcz5_0 : w4.cell? ⟨gb109, 0, none⟩ = some (.int .u64 a0_0) := (blk_cell BK109.out 0).trans rfl; have hcz5_1 : w4.cell? ⟨gb109, 1, none⟩ = some (.int .u64 a0_1) := (blk_cell BK109.out 1).trans rfl; have hfz5_0 := blk_frozen BK109.out 0; have hfz5_1 := blk_frozen BK109.out 1) | ((with_reducible refine gate_callee (f := 87) rfl ?_); refine goesL_ (some 8) rfl rfl Try.func87 (by kernel_rfl) rfl #[.int .u64 a0_0, .int .u64 a1] rfl (by (try simp only [List.map_toArray, List.map_cons, List.map_nil]); first | done | rfl | (simp only [List.length_drop, List.length_take]; rfl)) ?_; (with_reducible refine (cmp_Compare_uint64.calls a0_0 a1 t110 _ A3.out).mono ?_); rintro e w' ⟨rfl, ⟨nd, rfl⟩⟩; refine ⟨_, rfl, ?_⟩))
  go_ret
  exact ⟨by first | rfl | (simp [errW_none, errW_some] <;> rfl) | (simp [*, errW_none, errW_some] <;> rfl), by repeat (first | (with_reducible first | exact HB.out | apply below_alloc | apply pw_below_drewN | apply below_drew1 | refine below_set ?_ GE109.out) | exact HB.out)⟩
def seq_Pair_uint64.l0 : Nat → List (S61) → Int → Int → Int → Int → Option (Int × Bool)
  | 0, _, _, _, _, _ => none
  | k + 1, x0, x1, x8, x9, x10 => if x9 < x10 then (if 0 ≤ (wrap64 ((IntKind.u64.wrap (wrap64 (x9 + x10))) / 2)) then (if (wrap64 ((IntKind.u64.wrap (wrap64 (x9 + x10))) / 2)) < (x0.length : Int) then ((seq_Pair_to.f ((rd_T61 x0 (wrap64 ((IntKind.u64.wrap (wrap64 (x9 + x10))) / 2))).f0) ((rd_T61 x0 (wrap64 ((IntKind.u64.wrap (wrap64 (x9 + x10))) / 2))).f1) x1).bind fun t112 => (if t112 < 0 then (seq_Pair_uint64.l0 k x0 x1 x8 (wrap64 ((wrap64 ((IntKind.u64.wrap (wrap64 (x9 + x10))) / 2)) + 1)) x10) else (seq_Pair_uint64.l0 k x0 x1 x8 x9 (wrap64 ((IntKind.u64.wrap (wrap64 (x9 + x10))) / 2))))) else (none)) else (none)) else (if x9 < x8 then (if 0 ≤ x9 then (if x9 < (x0.length : Int) then ((seq_Pair_to.f ((rd_T61 x0 x9).f0) ((rd_T61 x0 x9).f1) x1).bind fun t114 => (some (x9, (t114 == 0)))) else (none)) else (none)) else (some (x9, false)))
def seq_Pair_uint64.f (k : Nat) (l0 : List (S61)) (a1 : Int) (a2 : Int) : Option (Int × Bool) := seq_Pair_uint64.l0 k l0 a1 (l0.length : Int) 0 (l0.length : Int)
set_option maxHeartbeats 8000000 in
set_option maxRecDepth 100000 in
theorem seq_Pair_uint64.calls (k : Nat) (A0 : Option Addr) (c0 : Nat) (l0 : List (S61)) (a1 : Int) (a2 : Int) (r1 : Int) (r2 : Bool) (w : World) (hr0 : Kd.C k61 w A0 l0.length l0) (hc0 : l0.length ≤ c0) (h : seq_Pair_uint64.f k l0 a1 a2 = some (r1, r2)) :
    Calls Try.prog 85 #[.slice A0 l0.length c0, .int .u64 a1, .func (.func 86) #[] #[]] w fun e w' => e = .returned (.tuple #[.int .i64 r1, .bool r2]) ∧ Below w.heap.size w w' := by
  have hu61 := Try.underlying61
  have HR0 := Aside0.mk hr0
  have HC0 := Aside0.mk hc0
  clear hr0 hc0
  have HB := Aside0.mk (Below.refl w.heap.size w)
  have H : (seq_Pair_uint64.l0 k l0 a1 (l0.length : Int) 0 (l0.length : Int)) = some (r1, r2) := h
  clear h
  have H' := Aside0.mk H
  clear H
  go_enter Try.func85, Try.ntmps85
  go_wp2
  go_loopg [9, 10] k (fun kq v9 v10 w' => ∃ (x9_1 : Int) (x10_1 : Int), v9 = .int .i64 x9_1 ∧ v10 = .int .i64 x10_1 ∧ Aside0 (seq_Pair_uint64.l0 kq l0 a1 (l0.length : Int) x9_1 x10_1 = some (r1, r2)) ∧ Aside0 (kq ≤ k) ∧ Aside0 (Below w.heap.size w w'))
  case atStart => exact ⟨(0), ((l0.length : Int)), (by first | rfl | (simp; done) | (simp [*]; done)), (by first | rfl | (simp; done) | (simp [*]; done)), H', ⟨Nat.le_refl _⟩, ⟨by repeat (first | (with_reducible first | exact HB.out | apply below_alloc | apply pw_below_drewN | apply below_drew1) | exact HB.out)⟩⟩
  case round =>
    clear H'
    try clear p2
    obtain ⟨x9_1, x10_1, rfl, rfl, HA, HK1, HB⟩ := hrel
    cases gk with
    | zero => exact absurd HA.out (by simp [seq_Pair_uint64.l0])
    | succ k1 =>
      have H := HA.out
      clear HA
      simp only [seq_Pair_uint64.l0] at H
      by_cases c4 : x9_1 < x10_1
      · rw [if_pos c4] at H
        have c4b0 : decide (x9_1 < x10_1) = true := decide_eq_true c4
        clear c4
        obtain ⟨ji5, hji5⟩ : ∃ j_ : Int, (wrap64 ((IntKind.u64.wrap (wrap64 (x9_1 + x10_1))) / 2)) = j_ := ⟨_, rfl⟩
        replace H : (if 0 ≤ (ji5) then (if (ji5) < (l0.length : Int) then ((seq_Pair_to.f ((rd_T61 l0 (ji5)).f0) ((rd_T61 l0 (ji5)).f1) a1).bind fun t112 => (if t112 < 0 then (seq_Pair_uint64.l0 k1 l0 a1 (l0.length : Int) (wrap64 ((ji5) + 1)) x10_1) else (seq_Pair_uint64.l0 k1 l0 a1 (l0.length : Int) x9_1 ji5))) else (none)) else (none)) = some (r1, r2) := by first | (rw [hji5] at H; exact H) | (simp only [hji5] at H ⊢; exact H)
        have hji5w : (IntKind.i64.wrap ((IntKind.u64.wrap (wrap64 (x9_1 + x10_1))) / 2)) = ji5 := (i64_w _).trans hji5
        by_cases c6 : 0 ≤ (ji5)
        · rw [if_pos c6] at H
          have c6b0 : decide (0 ≤ (ji5)) = true := decide_eq_true c6
          clear c6
          by_cases c7 : (ji5) < (l0.length : Int)
          · rw [if_pos c7] at H
            have c7b0 : decide ((ji5) < (l0.length : Int)) = true := decide_eq_true c7
            clear c7
            replace H := Option.bind_eq_some_iff.mp H
            obtain ⟨t112, A80, H⟩ := H
            replace H : (if t112 < 0 then (seq_Pair_uint64.l0 k1 l0 a1 (l0.length : Int) (wrap64 ((ji5) + 1)) x10_1) else (seq_Pair_uint64.l0 k1 l0 a1 (l0.length : Int) x9_1 ji5)) = some (r1, r2) := H
            have A8 := Aside0.mk A80
            clear A80
            by_cases c9 : t112 < 0
            · rw [if_pos c9] at H
              have c9b0 : decide (t112 < 0) = true := decide_eq_true c9
              clear c9
              have H' := Aside0.mk H
              clear H
              have p111 : 0 ≤ ((ji5) : Int) := of_decide_eq_true (by first | (with_reducible assumption) | assumption)
              have q111 : (ji5) < (l0.length : Int) := of_decide_eq_true (by first | (with_reducible assumption) | assumption)
              obtain ⟨ad111, e111, hx111_0, hx111_1⟩ := at_T61 HR0.out (ji5) p111 q111
              cases e111
              replace hx111_0 := (HB.out.cell (World.block_lt_of_cell? w _ hx111_0)).trans hx111_0
              replace hx111_1 := (HB.out.cell (World.block_lt_of_cell? w _ hx111_1)).trans hx111_1
              replace p111 := eq_true p111
              replace q111 := eq_true q111
              go_wp2_with (first | ((go_at_call 86); (with_reducible refine (seq_Pair_to.calls ((rd_T61 l0 (ji5)).f0) ((rd_T61 l0 (ji5)).f1) a1 t112 _ A8.out).mono ?_); rintro e w10 ⟨rfl, hb⟩; have n0_ := Aside0.mk (below_step (by repeat (first | (with_reducible first | exact HB.out | apply below_alloc | apply pw_below_drewN | apply below_drew1) | exact HB.out)) hb); clear HB; have HB := n0_; clear n0_; (try clear hb); (try clear hb2); (try clear hk); (try clear hi)))
              go_roundg k1
              case measure => have := HK1.out; omega
              case rel => exact ⟨(wrap64 ((ji5) + 1)), (x10_1), (by first | rfl | (simp; done) | (simp only [← hji5] <;> (first | rfl | simp)) | (simp [*]; done)), (by first | rfl | (simp; done) | (simp [*]; done)), H', ⟨by have := HK1.out; omega⟩, ⟨by repeat (first | (with_reducible first | exact HB.out | apply below_alloc | apply pw_below_drewN | apply below_drew1) | exact HB.out)⟩⟩
            · rw [if_neg c9] at H
              have c9b0 : decide (t112 < 0) = false := decide_eq_false c9
              clear c9
              have H' := Aside0.mk H
              clear H
              have p111 : 0 ≤ ((ji5) : Int) := of_decide_eq_true (by first | (with_reducible assumption) | assumption)
              have q111 : (ji5) < (l0.length : Int) := of_decide_eq_true (by first | (with_reducible assumption) | assumption)
              obtain ⟨ad111, e111, hx111_0, hx111_1⟩ := at_T61 HR0.out (ji5) p111 q111
              cases e111
              replace hx111_0 := (HB.out.cell (World.block_lt_of_cell? w _ hx111_0)).trans hx111_0
              replace hx111_1 := (HB.out.cell (World.block_lt_of_cell? w _ hx111_1)).trans hx111_1
              replace p111 := eq_true p111
              replace q111 := eq_true q111
              go_wp2_with (first | ((go_at_call 86); (with_reducible refine (seq_Pair_to.calls ((rd_T61 l0 (ji5)).f0) ((rd_T61 l0 (ji5)).f1) a1 t112 _ A8.out).mono ?_); rintro e w11 ⟨rfl, hb⟩; have n0_ := Aside0.mk (below_step (by repeat (first | (with_reducible first | exact HB.out | apply below_alloc | apply pw_below_drewN | apply below_drew1) | exact HB.out)) hb); clear HB; have HB := n0_; clear n0_; (try clear hb); (try clear hb2); (try clear hk); (try clear hi)))
              go_roundg k1
              case measure => have := HK1.out; omega
              case rel => exact ⟨(x9_1), (ji5), (by first | rfl | (simp; done) | (simp [*]; done)), (by first | rfl | (simp; done) | (simp only [← hji5] <;> (first | rfl | simp)) | (simp [*]; done)), H', ⟨by have := HK1.out; omega⟩, ⟨by repeat (first | (with_reducible first | exact HB.out | apply below_alloc | apply pw_below_drewN | apply below_drew1) | exact HB.out)⟩⟩
          · rw [if_neg c7] at H
            exact absurd H (by simp)
        · rw [if_neg c6] at H
          exact absurd H (by simp)
      · rw [if_neg c4] at H
        have c4b0 : decide (x9_1 < x10_1) = false := decide_eq_false c4
        clear c4
        by_cases c12 : x9_1 < (l0.length : Int)
        · rw [if_pos c12] at H
          have c12b0 : decide (x9_1 < (l0.length : Int)) = true := decide_eq_true c12
          clear c12
          by_cases c13 : 0 ≤ x9_1
          · rw [if_pos c13] at H
            have c13b0 : decide (0 ≤ x9_1) = true := decide_eq_true c13
            clear c13
            by_cases c14 : x9_1 < (l0.length : Int)
            · rw [if_pos c14] at H
              have c14b0 : decide (x9_1 < (l0.length : Int)) = true := decide_eq_true c14
              clear c14
              replace H := Option.bind_eq_some_iff.mp H
              obtain ⟨t114, A150, H⟩ := H
              replace H : (some (x9_1, (t114 == 0))) = some (r1, r2) := H
              have A15 := Aside0.mk A150
              clear A150
              simp only [Option.some.injEq, Prod.mk.injEq] at H
              obtain ⟨rfl, rfl⟩ := H
              have p113 : 0 ≤ (x9_1 : Int) := of_decide_eq_true (by first | (with_reducible assumption) | assumption)
              have q113 : x9_1 < (l0.length : Int) := of_decide_eq_true (by first | (with_reducible assumption) | assumption)
              obtain ⟨ad113, e113, hx113_0, hx113_1⟩ := at_T61 HR0.out x9_1 p113 q113
              cases e113
              replace hx113_0 := (HB.out.cell (World.block_lt_of_cell? w _ hx113_0)).trans hx113_0
              replace hx113_1 := (HB.out.cell (World.block_lt_of_cell? w _ hx113_1)).trans hx113_1
              replace p113 := eq_true p113
              replace q113 := eq_true q113
              go_wp2_with (first | (go_at_call 86; (with_reducible refine (seq_Pair_to.calls ((rd_T61 l0 x9_1).f0) ((rd_T61 l0 x9_1).f1) a1 t114 _ A15.out).mono ?_); rintro e w16 ⟨rfl, hb⟩; have n0_ := Aside0.mk (below_step (by repeat (first | (with_reducible first | exact HB.out | apply below_alloc | apply pw_below_drewN | apply below_drew1) | exact HB.out)) hb); clear HB; have HB := n0_; clear n0_; (try clear hb); (try clear hb2); (try clear hk); (try clear hi)))
              go_ret2
              exact ⟨by first | rfl | (simp [errW_none, errW_some] <;> rfl) | (simp [*, errW_none, errW_some] <;> rfl), by repeat (first | (with_reducible first | exact HB.out | apply below_alloc | apply pw_below_drewN | apply below_drew1) | exact HB.out)⟩
            · rw [if_neg c14] at H
              exact absurd H (by simp)
          · rw [if_neg c13] at H
            exact absurd H (by simp)
        · rw [if_neg c12] at H
          have c12b0 : decide (x9_1 < (l0.length : Int)) = false := decide_eq_false c12
          clear c12
          simp only [Option.some.injEq, Prod.mk.injEq] at H
          obtain ⟨rfl, rfl⟩ := H
          go_wp2
          go_ret2
          exact ⟨by first | rfl | (simp [errW_none, errW_some] <;> rfl) | (simp [*, errW_none, errW_some] <;> rfl), by repeat (first | (with_reducible first | exact HB.out | apply below_alloc | apply pw_below_drewN | apply below_drew1) | exact HB.out)⟩
def seq_Map_place.f (k : Nat) (l0_0 : List (S61)) (a1 : Int) : Option (Int × Bool) := (seq_Pair_uint64.f k l0_0 a1 0).bind fun bt116 => (some (bt116.1, bt116.2))
set_option maxHeartbeats 8000000 in
set_option maxRecDepth 100000 in
theorem seq_Map_place.calls (k : Nat) (A0_0 : Option Addr) (c0_0 : Nat) (l0_0 : List (S61)) (a1 : Int) (r1 : Int) (r2 : Bool) (w : World) (hr0_0 : Kd.C k61 w A0_0 l0_0.length l0_0) (hc0_0 : l0_0.length ≤ c0_0) (h : seq_Map_place.f k l0_0 a1 = some (r1, r2)) :
    Calls Try.prog 83 #[.agg #[.slice A0_0 l0_0.length c0_0], .int .u64 a1] w fun e w' => e = .returned (.tuple #[.int .i64 r1, .bool r2]) ∧ Below w.heap.size w w' := by
  have hu37 := Try.underlying37
  have HR0_0 := Aside0.mk hr0_0
  have HC0_0 := Aside0.mk hc0_0
  clear hr0_0 hc0_0
  have HB := Aside0.mk (Below.refl w.heap.size w)
  have H : ((seq_Pair_uint64.f k l0_0 a1 0).bind fun bt116 => (some (bt116.1, bt116.2))) = some (r1, r2) := h
  clear h
  replace H := Option.bind_eq_some_iff.mp H
  obtain ⟨⟨t116, t117⟩, A30, H⟩ := H
  replace H : (some (t116, t117)) = some (r1, r2) := H
  have A3 := Aside0.mk A30
  clear A30
  simp only [Option.some.injEq, Prod.mk.injEq] at H
  obtain ⟨rfl, rfl⟩ := H
  go_enter Try.func83, Try.ntmps83
  go_wp2_with (first | ((with_reducible refine gate_dst (N := 2) rfl ?_); refine box_event ?hg (N := 2) ?hd (cs := #[.slice A0_0 l0_0.length c0_0]) (t := 37) ?hr ?_; (case hd => rfl); (case hg => rfl); (case hr => first | (go_simp; done) | (go_simp; rfl)); intro gb115 hg w4 hbox hb; have n0_ := Aside0.mk (below_step (by repeat (first | (with_reducible first | exact HB.out | apply below_alloc | apply pw_below_drewN | apply below_drew1) | exact HB.out)) hb); have n1_ := Aside0.mk (hbox); have n2_ := Aside0.mk ((by rw [hg]; exact (below_size (by repeat (first | (with_reducible first | exact HB.out | apply below_alloc | apply pw_below_drewN | apply below_drew1) | exact HB.out))) : w.heap.size ≤ gb115)); have n3_ := Aside0.mk ((by rw [hg]; exact (below_size (by repeat (first | (with_reducible first | exact HB.out | apply below_alloc | apply pw_below_drewN | apply below_drew1) | exact HB.out))) : w.heap.size ≤ gb115)); clear HB; have HB := n0_; have BK115 := n1_; have GW115 := n2_; have GE115 := n3_; clear n0_ n1_ n2_ n3_; clear hb hbox hg; have hcz5_0 : w4.cell? ⟨gb115, 0, none⟩ = some (.slice A0_0 l0_0.length c0_0) := (blk_cell BK115.out 0).trans rfl; have hfz5_0 := blk_frozen BK115.out 0) | ((with_reducible refine gate_callee (f := 85) rfl ?_); refine goesL_ (some 9) rfl rfl Try.func85 (by kernel_rfl) rfl #[.slice A0_0 l0_0.length c0_0, .int .u64 a1, .func (.func 86) #[] #[]] rfl (by (try simp only [List.map_toArray, List.map_cons, List.map_nil]); first | done | rfl | (simp only [List.length_drop, List.length_take]; rfl)) ?_; (with_reducible refine (seq_Pair_uint64.calls k _ _ l0_0 a1 0 t116 t117 _ ?side1 ?side2 A3.out).mono ?_); (case side1 => repeat (first | exact (Kd.C_below HR0_0.out HB.out) | (with_reducible refine Kd.C_alloc ?_ _) | (with_reducible refine Kd.C_drewN ?_ _) | (with_reducible refine Kd.C_drew ?_))); (case side2 => exact HC0_0.out); rintro e w6 ⟨rfl, hb⟩; refine ⟨_, rfl, ?_⟩; have n0_ := Aside0.mk (blk_below (g := gb115) (o := .cells #[.slice A0_0 l0_0.length c0_0] 37 (0, 0)) (by (with_reducible repeat (first | refine blk_drewN ?_ _ | refine blk_drew ?_ | refine blk_alloc ?_ _)); exact BK115.out) hb); have n1_ := Aside0.mk (below_step (by repeat (first | (with_reducible first | exact HB.out | apply below_alloc | apply pw_below_drewN | apply below_drew1 | refine below_set ?_ GE115.out) | exact HB.out)) hb); clear BK115; clear HB; have BK115 := n0_; have HB := n1_; clear n0_ n1_; (try clear hb); (try clear hb2); (try clear hk); (try clear hi)))
  go_ret2
  exact ⟨by first | rfl | (simp [errW_none, errW_some] <;> rfl) | (simp [*, errW_none, errW_some] <;> rfl), by repeat (first | (with_reducible first | exact HB.out | apply below_alloc | apply pw_below_drewN | apply below_drew1 | refine below_set ?_ GE115.out) | exact HB.out)⟩
theorem clear_run (g o : Nat) (W : World) (cur : Array Value) (cc : Nat) (ty : TypeId) (hg : W.heap[g]? = some (.cells cur 61 (0, 0))) (hl : o + 2 ≤ cur.size) :
    (Builtin.clear_ #[35] ty #[.slice (some ⟨g, o, none⟩) 1 cc]).run Try.prog W = .ok (.tuple #[]) (W.setRow g (cur.toList.take (o + 0) ++ [Value.int .u64 0, Value.int .u64 0] ++ cur.toList.drop (o + 0 + 2)).toArray) := by
  have hz : (zeroValue 61).run Try.prog W = .ok (.agg #[.int .u64 0, .int .u64 0]) W := by kernel_rfl
  have hs := run_storeCells_at Try.prog g o 61 [.int .u64 0, .int .u64 0] 0 cur W hg (by simpa using hl) (by intro v hv; simp at hv; subst hv; rfl)
  have hc : (Builtin.zeroCells (Value.agg #[.int .u64 0, .int .u64 0]).cells 1).toList = [Value.int .u64 0, Value.int .u64 0] := by simp [Builtin.zeroCells, Value.cells, show List.range 2 = [0, 1] from rfl]
  simp only [Builtin.clear_]
  simp [run_underlying Try.underlying35, Sem.run_bind, hz, hc, hs]
theorem clear_own {W : World} {base g n c : Nat} {l : List S61} (h : Kd.R k61 61 W base (fun _ => True) (.slice (some ⟨g, 0, none⟩) n c) l) (hn : n < c) :
    ∃ w2, (∀ cc ty, (Builtin.clear_ #[35] ty #[.slice (some ⟨g, n * 2, none⟩) 1 cc]).run Try.prog W = .ok (.tuple #[]) w2) ∧ Kd.R k61 61 w2 base (fun _ => True) (.slice (some ⟨g, 0, none⟩) n c) l ∧ Below base W w2 := by
  obtain ⟨_, inner, ⟨hlen, hrow⟩, hr⟩ := h
  rcases hrow with ⟨e, _⟩ | ⟨g', cap, cur, e, hb, hg, hnc, hcm, hsz, htk⟩
  · cases e
  · injection e with e1 e2 e3
    injection e1 with e1
    injection e1 with e1
    subst e1 e2 e3
    have hsz' : cur.size = c * 2 := hsz
    have hcl : cur.toList.length = c * 2 := by rw [Array.length_toList]; exact hsz'
    have hlt : g < W.heap.size := (Array.getElem?_eq_some_iff.1 hg).1
    refine ⟨_, fun cc ty => clear_run g (l.length * 2) W cur cc ty hg (by omega), ⟨fun _ _ => trivial, inner, ⟨hlen, .inr ⟨g, c, (cur.toList.take (l.length * 2 + 0) ++ [Value.int .u64 0, Value.int .u64 0] ++ cur.toList.drop (l.length * 2 + 0 + 2)).toArray, rfl, hb, ?_, hnc, hcm, ?_, ?_⟩⟩, ?_⟩, ?_⟩
    · exact setRow_heap W g _ _ _ _ hg
    · simp only [List.size_toArray, List.length_append, List.length_take, List.length_drop, List.length_cons, List.length_nil, Array.length_toList]
      show _ = c * 2
      omega
    ·
      show List.take (l.length * 2) (cur.toList.take (l.length * 2 + 0) ++ [Value.int .u64 0, Value.int .u64 0] ++ cur.toList.drop (l.length * 2 + 0 + 2)) = inner
      rw [List.append_assoc, List.take_append_of_le_length (by rw [List.length_take, hcl]; omega), Nat.add_zero, List.take_take, Nat.min_self]
      exact htk
    · refine hr.imp_ (fun p cs hp => ?_)
      obtain rfl := k61_openM hp
      exact k61_mkM _ _ _ p
    · exact ⟨rfl, rfl, rfl, by simp, fun k hk => setRow_other W g k _ (by omega)⟩
set_option maxHeartbeats 2000000 in
set_option maxRecDepth 100000 in
theorem delete_calls (v : Value) (l : List S61) (i : Int) (W : World) (base : Nat) (HO : Kd.R k61 61 W base (fun _ => True) v l) (h0 : 0 ≤ i) (hi : i < l.length) (hl : l.length ≤ 1000000) (hbase : base ≤ W.heap.size) :
    Calls Try.prog 84 #[v, .int .i64 i, .int .i64 (i + 1)] W fun e w' => ∃ v', e = .returned v' ∧ Kd.R k61 61 w' base (fun _ => True) v' (l.eraseIdx i.toNat) ∧ Below base W w' := by
  obtain ⟨g, c, rfl, hgb, hgl, cells, hcells⟩ := Kd.R_form HO (by omega)
  obtain ⟨k, rfl⟩ := Int.eq_ofNat_of_zero_le h0
  have hnc := (Kd.R_reads' HO).2.1
  have hcm := (Kd.R_reads' HO).2.2.2.1
  have hk : k < l.length := by omega
  generalize hn : l.length = n at *
  obtain ⟨m, rfl⟩ : ∃ m, n = m + 1 := ⟨n - 1, by omega⟩
  have HOH := Lib.hid HO
  have HN := Lib.hid hn
  clear HO hcells hn
  have d1 : ((k : Int) == (k : Int) + 1) = false := by simp; omega
  go_enter Try.func84, Try.ntmps84
  obtain ⟨A, hA, hA2⟩ : ∃ A : Addr, (if c = k + 1 then some (⟨g, 0, none⟩ : Addr) else some ⟨g, (k + 1) * 2, none⟩) = some A ∧ Hid (some A = if c = k + 1 then some ⟨g, 0, none⟩ else (some (⟨g, 0, none⟩ : Addr)).map (·.add ((k + 1) * k61.sz))) := by
    by_cases h : c = k + 1
    · exact ⟨⟨g, 0, none⟩, by rw [if_pos h], Lib.hid (by rw [if_pos h])⟩
    · refine ⟨⟨g, (k + 1) * 2, none⟩, by rw [if_neg h], Lib.hid ?_⟩
      rw [if_neg h]
      show some _ = some ((⟨g, 0, none⟩ : Addr).add ((k + 1) * 2))
      simp [Addr.add]
  have hkc : k ≤ c := by omega
  have hkm : k ≤ m := by omega
  have hk1 : k + 1 ≤ m + 1 := hk
  have hk2 : k + 1 ≤ c := by omega
  have hz1 : 0 ≤ (k : Int) + 1 := by omega
  have hz2 : (k : Int) + 1 ≤ ((m + 1 : Nat) : Int) := by omega
  go_wp2_with fail
  go_region_law (refine Kd.R_delete_step k61 (w0 := W.drew) base rfl (.tmp 22) (.tmp 25) 35 61 rfl Try.underlying35 (by kernel_rfl) (g := g) (n := m + 1) (c := c) (k := k) (A := some A) rfl rfl hA2.out (by omega) (Kd.R_drew HOH.out) hk (Below.refl _ _) (show base ≤ W.drew.heap.size from hbase) ?_; intro w1 hr1 hb1 hg1)
  all_goals
    have hr1' : Kd.R k61 61 w1 base (fun _ => True) (.slice (some ⟨g, 0, none⟩) m c) (l.eraseIdx k) := hr1
    obtain ⟨w2, hclr, hr2, hb2⟩ := clear_own hr1' (by omega)
    have HR2 := Lib.hid hr2
    have HB2 := Lib.hid (show Below base W w2 from (Below.drew (Below.refl base W)).trans (Below.trans hb1 hb2))
    clear hr1 hr1' hb1 hb2 hg1 hr2
    have hmc : m ≤ c := by omega
    have hmc1 : m + 1 ≤ c := by omega
    have hcm' : (c = m) = False := eq_false (by omega)
    go_wp2_with fail
    go_ret
    exact ⟨_, rfl, HR2.out, HB2.out⟩
def seq_Map_without.f (k : Nat) (l0_0 : List S61) (a1 : Int) : Option ((List S61) × Int) := (seq_Map_place.f k l0_0 a1).bind fun p => (if 0 ≤ p.1 then (if l0_0.length ≤ 1000000 then (if p.2 = true then (if p.1 < (l0_0.length : Int) then some (l0_0.eraseIdx p.1.toNat, p.1) else none) else some (l0_0, p.1)) else none) else none)
def Blk (w : World) (k : Nat) (cs : Array Value) (t : TypeId) : Prop := k < w.heap.size ∧ w.heap[k]? = some (.cells cs t (0, 0))
theorem Blk.below {w w' : World} {k : Nat} {cs : Array Value} {t : TypeId} (h : Blk w k cs t) (hb : Below w.heap.size w w') : Blk w' k cs t := ⟨Nat.lt_of_lt_of_le h.1 hb.size, (hb.block k h.1).trans h.2⟩
theorem Blk.cell {w : World} {k : Nat} {cs : Array Value} {t : TypeId} (h : Blk w k cs t) (j : Nat) : w.cell? ⟨k, j, none⟩ = cs[j]? := blk_cell h.2 j
theorem Blk.frozen {w : World} {k : Nat} {cs : Array Value} {t : TypeId} (h : Blk w k cs t) (j : Nat) : w.frozen? ⟨k, j, none⟩ = false := blk_frozen h.2 j
theorem Blk.new (w : World) (cs : Array Value) (t : TypeId) : Blk (w.alloc (.cells cs t)) w.heap.size cs t := ⟨by rw [World.size_alloc]; omega, by (show (w.heap.push _)[w.heap.size]? = _); exact Array.getElem?_push_size⟩
theorem Blk.alloc {w : World} {k : Nat} {cs : Array Value} {t : TypeId} (h : Blk w k cs t) (o : Obj) : Blk (w.alloc o) k cs t := h.below (below_alloc (Below.refl _ _) o)
theorem Blk.below' {w w' : World} {k b : Nat} {cs : Array Value} {t : TypeId} (h : Blk w k cs t) (hk : k < b) (hb : Below b w w') : Blk w' k cs t := ⟨Nat.lt_of_lt_of_le h.1 hb.size, (hb.block k hk).trans h.2⟩
theorem below_and {w w1 w2 : World} (h : Below w.heap.size w w1) (k : Below w1.heap.size w1 w2) : Below w.heap.size w w2 := h.trans (k.mono h.size)
set_option maxHeartbeats 2000000 in
set_option maxRecDepth 100000 in
theorem without_in (k : Nat) (A0_0 : Option Addr) (c0_0 : Nat) (l0_0 : List S61) (a1 at_ : Int) (is : Bool) (w : World) (hr0_0 : Kd.C k61 w A0_0 l0_0.length l0_0) (hc0_0 : l0_0.length ≤ c0_0) (hp : seq_Map_place.f k l0_0 a1 = some (at_, is))
    (h0 : 0 ≤ at_) (hl : l0_0.length ≤ 1000000) (hi : is = true → at_ < (l0_0.length : Int)) :
    Calls Try.prog 77 #[.agg #[.slice A0_0 l0_0.length c0_0], .int .u64 a1] w fun e w' => ∃ v0_ : Value, e = .returned (.tuple #[.agg #[v0_], .int .i64 at_]) ∧ Kd.R k61 61 w' w.heap.size (fun _ => True) v0_ (if is = true then l0_0.eraseIdx at_.toNat else l0_0) ∧ Below w.heap.size w w' := by
  have W2 : ∃ W, W = (w.alloc (.cells #[.slice A0_0 l0_0.length c0_0] 37)).alloc (.cells #[.slice none 0 0] 37) := ⟨_, rfl⟩
  obtain ⟨W, hW⟩ := W2
  have hsz : W.heap.size = w.heap.size + 2 := by rw [hW, World.size_alloc, World.size_alloc]
  have B0 : Blk W w.heap.size #[.slice A0_0 l0_0.length c0_0] 37 := by rw [hW]; exact (Blk.new w _ _).alloc _
  have B1 : Blk W (w.heap.size + 1) #[.slice none 0 0] 37 := by
    have := Blk.new (w.alloc (.cells #[.slice A0_0 l0_0.length c0_0] 37)) #[.slice none 0 0] 37
    rw [World.size_alloc] at this
    rw [hW]; exact this
  have BW : Below w.heap.size w W := by rw [hW]; exact below_alloc (below_alloc (Below.refl _ _) _) _
  have HC := Lib.hid (Kd.C_below hr0_0 BW)
  have HP := Lib.hid (seq_Map_place.calls k A0_0 c0_0 l0_0 a1 at_ is W HC.out hc0_0 hp)
  have B0 := Lib.hid B0
  have B1 := Lib.hid B1
  have BW := Lib.hid BW
  have HI := Lib.hid hi
  have HSZ := Lib.hid hsz
  have HL := Lib.hid hc0_0
  rw [hW] at HP
  clear hr0_0 hp hi hsz hc0_0
  go_enter Try.func77, Try.ntmps77
  go_wp2_with fail
  refine HP.out.mono ?_
  rw [← hW]
  clear HP hW
  rintro e w1 ⟨rfl, hb1⟩
  have C1 := Lib.hid (Kd.C_below HC.out hb1)
  have B01 := Lib.hid (B0.out.below hb1)
  have B11 := Lib.hid (B1.out.below hb1)
  have BW1 := Lib.hid (below_and BW.out hb1)
  clear hb1 HC B0 B1
  have hm1 := B01.out.cell 0
  have hlm : l0_0.length < 8796093022208 := by omega
  have HCL := Lib.hid (seq_Pair_32.calls A0_0 c0_0 l0_0 l0_0 w1 C1.out HL.out (by unfold seq_Pair_32.f; simp [hlm]))
  go_wp2_with fail
  refine HCL.out.mono ?_
  clear HCL
  rintro e w2 ⟨v, rfl, hr2, hb2⟩
  have B02 := Lib.hid (B01.out.below hb2)
  have B12 := Lib.hid (B11.out.below hb2)
  have BW2 := Lib.hid (below_and BW1.out hb2)
  have hs1 : w.heap.size ≤ w1.heap.size := BW1.out.size
  obtain ⟨Av, cv, rfl⟩ := Kd.R_slice hr2
  have K1 : w.heap.size + 1 < w1.heap.size := B11.out.1
  have hs12 : w1.heap.size ≤ w2.heap.size := hb2.size
  have R2 := Lib.hid hr2
  have hs2 : w.heap.size ≤ w2.heap.size := BW2.out.size
  clear hr2 hb2 B01 B11 hm1 C1
  cases is with
  | false =>
    have hm2 := B12.out.cell 0
    have hf2 := B12.out.frozen 0
    go_wp2_with fail
    refine bodyPost_ret (results_ct rfl _ _ (w.heap.size + 1) 37 #[.slice Av l0_0.length cv] (0, 0) _ rfl (blk_put B12.out.2 0 _ rfl) Try.underlying37 rfl rfl) rfl ?_
    exact ⟨_, rfl, Kd.R_set (Kd.R_lower R2.out hs1) B12.out.2 (by decide) _ _, Below.setCell BW2.out (Nat.le_succ _) _⟩
  | true =>
    have hi2 := HI.out rfl
    have HD := Lib.hid (delete_calls (.slice Av l0_0.length cv) l0_0 at_ w2 w1.heap.size R2.out h0 hi2 hl hs12)
    have hx1 : at_ + 1 < 9223372036854775808 := by omega
    have hx2 : -9223372036854775808 ≤ at_ + 1 := by omega
    go_wp2_with fail
    refine HD.out.mono ?_
    clear HD R2
    rintro e w3 ⟨v3, rfl, hr3, hb3⟩
    obtain ⟨A3, c3, rfl⟩ := Kd.R_slice hr3
    have B13 := Lib.hid (B12.out.below' K1 hb3)
    have BW3 := Lib.hid (BW2.out.trans (hb3.mono hs1))
    have R3 := Lib.hid (Kd.R_lower hr3 hs1)
    clear hr3 hb3 B12 B02 BW2
    have hm3 := B13.out.cell 0
    have hf3 := B13.out.frozen 0
    go_wp2_with fail
    refine bodyPost_ret (results_ct rfl _ _ (w.heap.size + 1) 37 #[.slice A3 (l0_0.eraseIdx at_.toNat).length c3] (0, 0) _ rfl (blk_put B13.out.2 0 _ rfl) Try.underlying37 rfl rfl) rfl ?_
    exact ⟨_, rfl, Kd.R_set R3.out B13.out.2 (by decide) _ _, Below.setCell BW3.out (Nat.le_succ _) _⟩
theorem seq_Map_without.calls (k : Nat) (A0_0 : Option Addr) (c0_0 : Nat) (l0_0 : List S61) (a1 : Int) (r1 : List S61) (r2 : Int) (w : World) (hr0_0 : Kd.C k61 w A0_0 l0_0.length l0_0) (hc0_0 : l0_0.length ≤ c0_0) (h : seq_Map_without.f k l0_0 a1 = some (r1, r2)) :
    Calls Try.prog 77 #[.agg #[.slice A0_0 l0_0.length c0_0], .int .u64 a1] w fun e w' => ∃ v0_ : Value, e = .returned (.tuple #[.agg #[v0_], .int .i64 r2]) ∧ Kd.R k61 61 w' w.heap.size (fun _ => True) v0_ r1 ∧ Below w.heap.size w w' := by
  unfold seq_Map_without.f at h
  obtain ⟨⟨at_, is⟩, hp, h⟩ := Option.bind_eq_some_iff.1 h
  dsimp only at h
  by_cases h0 : 0 ≤ at_
  · rw [if_pos h0] at h
    by_cases hl : l0_0.length ≤ 1000000
    · rw [if_pos hl] at h
      cases is with
      | false =>
        rw [if_neg (by decide)] at h
        injection h with h
        injection h with e1 e2
        subst e1 e2
        exact (without_in k A0_0 c0_0 l0_0 a1 at_ false w hr0_0 hc0_0 hp h0 hl (fun h => by cases h)).mono (fun _ _ h => h)
      | true =>
        rw [if_pos rfl] at h
        by_cases hi : at_ < (l0_0.length : Int)
        · rw [if_pos hi] at h
          injection h with h
          injection h with e1 e2
          subst e1 e2
          exact (without_in k A0_0 c0_0 l0_0 a1 at_ true w hr0_0 hc0_0 hp h0 hl (fun _ => hi)).mono (fun _ _ h => h)
        · rw [if_neg hi] at h
          cases h
    · rw [if_neg hl] at h
      cases h
  · rw [if_neg h0] at h
    cases h
section
variable {P : Program}
theorem reps_app {α : Type} {R : α → List Value → Prop} {size : Nat} {ps qs : List α} {cs ds : List Value} (h : Reps R size ps cs) (k : Reps R size qs ds) : Reps R size (ps ++ qs) (cs ++ ds) := by
  refine ⟨by rw [List.length_append, h.1, k.1, List.length_append, Nat.add_mul], fun j q hq => ?_⟩
  rcases Nat.lt_or_ge j ps.length with hj | hj
  · rw [List.getElem?_append_left hj] at hq
    have h1 : j * size + size ≤ cs.length := by rw [h.1, ← Nat.succ_mul]; exact Nat.mul_le_mul_right _ hj
    have h2 := h.2 j q hq
    rw [List.drop_append_of_le_length (by omega), List.take_append_of_le_length (by rw [List.length_drop]; omega)]
    exact h2
  · rw [List.getElem?_append_right hj] at hq
    have h2 := k.2 _ q hq
    obtain ⟨i, rfl⟩ := Nat.exists_eq_add_of_le hj
    have e : (ps.length + i) * size = cs.length + i * size := by rw [h.1, Nat.add_mul]
    rw [e, ← List.drop_drop, List.drop_left]
    rwa [Nat.add_sub_cancel_left] at h2
theorem R_grow_step {α : Type} (d : Kd α) {Rr : α → List Value → Prop} {ops : Array Oper} {o : Oper} {a : Act} {Kc : Act → World → Prop} {Q : Exit → Act → World → Prop} {E : Prop} {W : World}
    (hgd : o.guard = none) (s x : Operand) (t e : TypeId) (z : Value) (bytes : Nat)
    (ho : o.op = .call { callee := .builtin .append, args := #[s, x], argTypes := #[t, t] })
    (ht : P.underlying t = some (.slice e)) (hinfo : (P.info? e).map (fun i => (i.zero, i.size, i.bytes)) = some (some z, d.sz, bytes)) (hz : z.cells.size = d.sz) (hs0 : 0 < d.sz) (hb0 : 0 < bytes)
    (A : Option Addr) (n c' : Nat) (xs ys : List α) (ad : Addr) (m c : Nat) (hs : a.eval s = .slice A n c') (hcap : A = none → c' = 0) (hfull : c' < n + m) (hx : a.eval x = .slice (some ad) m c)
    (HA : ReadsRow Rr d.sz W A n xs) (HN : ReadsRow Rr d.sz W (some ad) m ys) (hKM : ∀ w1 ok x cs, Rr x cs → d.M w1 W.heap.size ok x cs) (hl : (n + m) * bytes ≤ 140737488355328)
    (h : ∀ v1 w1, d.R e w1 W.heap.size (fun _ => True) v1 (xs ++ ys) → W.grownBy w1 none → Kc (a.put o.dst v1) w1) :
    if Region.wanted o (yielded ops a.tmps) = true then Oper.wp P o a W Kc Q else E := by
  obtain ⟨i0, hi, hzz⟩ := Option.map_eq_some_iff.1 hinfo
  simp only [Prod.mk.injEq] at hzz
  obtain ⟨hz0, hz1, hz2⟩ := hzz
  have hlen : n + m ≤ 140737488355328 := Nat.le_trans (Nat.le_mul_of_pos_right _ hb0) hl
  obtain ⟨news, hnr, hnc⟩ := ReadsRow.inner_ HN
  obtain ⟨olds, hor, hoc⟩ : ∃ olds, Reps Rr d.sz xs olds ∧ ∀ b, A = some b → ∀ j u, olds[j]? = some u → W.cell? (b.add j) = some u := by
    cases A with
    | some b =>
      obtain ⟨olds, h1, h2⟩ := ReadsRow.inner_ HA
      exact ⟨olds, h1, fun b' hb => by cases hb; exact h2⟩
    | none =>
      have hn : xs = [] := by
        rcases Nat.eq_zero_or_pos n with h0 | h0
        · exact List.eq_nil_of_length_eq_zero (HA.1.trans h0)
        · obtain ⟨_, h1, _⟩ := HA.2.2 h0
          cases h1
      subst hn
      exact ⟨[], Reps.none _ _, fun b hb => by cases hb⟩
  have hn0 : A = none → n = 0 ∧ c' = 0 := fun hA => ⟨(by
    rcases Nat.eq_zero_or_pos n with h0 | h0
    · exact h0
    · obtain ⟨_, h1, _⟩ := HA.2.2 h0
      rw [hA] at h1
      cases h1), hcap hA⟩
  have hone : ∀ u ∈ news, u.oneCell' = true := by
    intro u hu
    obtain ⟨q, hq, rfl⟩ := List.mem_iff_getElem.1 hu
    have hql : q / d.sz < ys.length := by
      rw [Nat.div_lt_iff_lt_mul hs0]
      rw [← hnr.1]
      exact hq
    have hc := hKM W (fun _ => True) _ _ (hnr.2 (q / d.sz) _ (List.getElem?_eq_getElem hql))
    refine d.K_one (d.K_of_M hc) _ ?_
    rw [List.mem_iff_getElem?]
    refine ⟨q % d.sz, ?_⟩
    rw [List.getElem?_take, if_pos (Nat.mod_lt _ hs0), List.getElem?_drop, Nat.mul_comm, Nat.div_add_mod, List.getElem?_eq_getElem hq]
  refine step_append_grows hgd s x t ho e i0 z d.sz bytes ht hi hz0 hz1 hz2 hz hs0 A n c' olds hs hn0 (by rw [hor.1, HA.1]) hoc ad m c news hx (by rw [hnr.1, HN.1]) hnc hone hfull (by simp only [maxLen]; omega) hl ?_
  intro v' w' hown hg
  refine h v' w' ⟨fun _ _ => trivial, olds ++ news, ?_, ?_⟩ hg
  · rw [List.length_append, HA.1, HN.1]
    exact hown
  · have := reps_app hor hnr
    exact this.imp_ (fun p cs hp => hKM _ _ _ _ hp)
end
def RPair (x : S61) (cs : List Value) : Prop := cs = [.int .u64 x.f0, .int .u64 x.f1]
theorem rpairM {w : World} {base : Nat} {ok : Nat → Prop} {x : S61} {cs : List Value} (h : RPair x cs) : k61.M w base ok x cs := by
  rw [h]
  exact k61_mkM _ _ _ x
theorem rr_pair {w : World} {A : Option Addr} {n : Nat} {xs : List S61} (h : Kd.C k61 w A n xs) : ReadsRow RPair 2 w A n xs :=
  ReadsRow.imp_ h (Below.refl _ _) (fun _ _ hp => k61_open hp)
theorem rr_one {w : World} {g : Nat} {x : S61} (h : w.heap[g]? = some (.cells #[.int .u64 x.f0, .int .u64 x.f1] 61 (0, 0))) : ReadsRow RPair 2 w (some ⟨g, 0, none⟩) 1 [x] := by
  refine ⟨rfl, by decide, fun _ => ⟨_, rfl, fun j p hp => ?_⟩⟩
  rcases j with _ | j
  · obtain rfl : x = p := by simpa using hp
    refine ⟨_, rfl, rfl, fun i u hu => ?_⟩
    rw [Nat.zero_mul, Nat.zero_add]
    exact World.news_of_block h i u hu
  · simp at hp
def seq_Map_with.f (k : Nat) (l0_0 : List S61) (a1_0 a1_1 : Int) : Option (List S61) := (seq_Map_without.f k l0_0 a1_0).bind fun p => (if 0 ≤ p.2 then (if p.2 ≤ (p.1.length : Int) then (if p.1.length ≤ 1000000 then some (p.1.take p.2.toNat ++ [⟨a1_0, a1_1⟩] ++ p.1.drop p.2.toNat) else none) else none) else none)
set_option maxHeartbeats 2000000 in
set_option maxRecDepth 100000 in
theorem with_in (k : Nat) (A0_0 : Option Addr) (c0_0 : Nat) (l0_0 l1 : List S61) (a1 : S61) (at_ : Nat) (w : World) (hr0_0 : Kd.C k61 w A0_0 l0_0.length l0_0) (hc0_0 : l0_0.length ≤ c0_0) (hp : seq_Map_without.f k l0_0 a1.f0 = some (l1, (at_ : Int)))
    (hat : at_ ≤ l1.length) (hl : l1.length ≤ 1000000) (r : List S61) (hres : l1.take at_ ++ [a1] ++ l1.drop at_ = r) :
    Calls Try.prog 61 #[.agg #[.slice A0_0 l0_0.length c0_0], .agg #[.int .u64 a1.f0, .int .u64 a1.f1]] w fun e w' => ∃ v0_ : Value, e = .returned (.agg #[v0_]) ∧ Kd.R k61 61 w' w.heap.size (fun _ => True) v0_ r ∧ Below w.heap.size w w' := by
  have HRES := Lib.hid hres
  clear hres
  have W2 : ∃ W, W = ((w.alloc (.cells #[.slice A0_0 l0_0.length c0_0] 37)).alloc (.cells #[.int .u64 a1.f0, .int .u64 a1.f1] 61)).alloc (.cells #[.slice none 0 0] 37) := ⟨_, rfl⟩
  obtain ⟨W, hW⟩ := W2
  have hsz : W.heap.size = w.heap.size + 3 := by rw [hW, World.size_alloc, World.size_alloc, World.size_alloc]
  have B0 : Blk W w.heap.size #[.slice A0_0 l0_0.length c0_0] 37 := by rw [hW]; exact ((Blk.new w _ _).alloc _).alloc _
  have B1 : Blk W (w.heap.size + 1) #[.int .u64 a1.f0, .int .u64 a1.f1] 61 := by
    have := (Blk.new (w.alloc (.cells #[.slice A0_0 l0_0.length c0_0] 37)) #[.int .u64 a1.f0, .int .u64 a1.f1] 61).alloc (.cells #[.slice none 0 0] 37)
    rw [World.size_alloc] at this
    rw [hW]; exact this
  have B2 : Blk W (w.heap.size + 2) #[.slice none 0 0] 37 := by
    have := Blk.new ((w.alloc (.cells #[.slice A0_0 l0_0.length c0_0] 37)).alloc (.cells #[.int .u64 a1.f0, .int .u64 a1.f1] 61)) #[.slice none 0 0] 37
    rw [World.size_alloc, World.size_alloc] at this
    rw [hW]; exact this
  have BW : Below w.heap.size w W := by rw [hW]; exact below_alloc (below_alloc (below_alloc (Below.refl _ _) _) _) _
  have HC := Lib.hid (Kd.C_below hr0_0 BW)
  have HP := Lib.hid (seq_Map_without.calls k A0_0 c0_0 l0_0 a1.f0 l1 at_ W HC.out hc0_0 hp)
  have B0 := Lib.hid B0
  have B1 := Lib.hid B1
  have B2 := Lib.hid B2
  have BW := Lib.hid BW
  have HSZ := Lib.hid hsz
  have HL := Lib.hid hc0_0
  rw [hW] at HP
  clear hr0_0 hp hsz hc0_0
  go_enter Try.func61, Try.ntmps61
  go_wp2_with fail
  refine HP.out.mono ?_
  rw [← hW]
  clear HP hW
  rintro e w1 ⟨v, rfl, hr1, hb1⟩
  obtain ⟨A1, c1, rfl⟩ := Kd.R_slice hr1
  have hlc : l1.length ≤ c1 := (Kd.R_reads' hr1).2.1
  have B01 := Lib.hid (B0.out.below hb1)
  have B11 := Lib.hid (B1.out.below hb1)
  have B21 := Lib.hid (B2.out.below hb1)
  have BW1 := Lib.hid (below_and BW.out hb1)
  have hsw : w.heap.size + 3 ≤ w1.heap.size := by have h1 := hb1.size; have h2 := HSZ.out; omega
  have R1 := Lib.hid hr1
  clear hr1 hb1 HC B0 B1 B2 BW
  have hm1 := B01.out.cell 0
  have hf1 := B01.out.frozen 0
  have hx1 := B11.out.cell 0
  have hx2 := B11.out.cell 1
  go_wp2_with fail
  have hw2 : ∃ x, x = w1.setCell ⟨w.heap.size, 0, none⟩ (.slice A1 l1.length c1) := ⟨_, rfl⟩
  obtain ⟨w2, hw2⟩ := hw2
  rw [← hw2]
  have R2 := Lib.hid (hw2 ▸ Kd.R_set R1.out B01.out.2 (by decide) 0 (.slice A1 l1.length c1))
  have B02 : Hid (Blk w2 w.heap.size #[.slice A1 l1.length c1] 37) := Lib.hid ⟨by rw [hw2]; exact Nat.lt_of_lt_of_le B01.out.1 (Below.setCell (p := ⟨w.heap.size, 0, none⟩) (Below.refl w.heap.size w1) (Nat.le_refl _) _).size, by rw [hw2]; exact blk_put B01.out.2 0 _ rfl⟩
  have BS2 : Below w.heap.size w1 w2 := by rw [hw2]; exact Below.setCell (p := ⟨w.heap.size, 0, none⟩) (Below.refl _ _) (Nat.le_refl _) _
  have B12 : Hid (Blk w2 (w.heap.size + 1) #[.int .u64 a1.f0, .int .u64 a1.f1] 61) := Lib.hid ⟨Nat.lt_of_lt_of_le B11.out.1 BS2.size, by rw [hw2]; exact blk_far B11.out.2 (by simp) _⟩
  have B22 : Hid (Blk w2 (w.heap.size + 2) #[.slice none 0 0] 37) := Lib.hid ⟨Nat.lt_of_lt_of_le B21.out.1 BS2.size, by rw [hw2]; exact blk_far B21.out.2 (by simp) _⟩
  have BW2 := Lib.hid (BW1.out.trans BS2)
  have hs2 : w.heap.size + 3 ≤ w2.heap.size := Nat.le_trans hsw BS2.size
  clear hw2 BS2 B01 B11 B21 BW1 R1 hm1 hf1 hx1 hx2 hsw
  obtain ⟨_, inner, ⟨hlen, hrow⟩, hr⟩ := R2.out
  rcases hrow with ⟨e, e0⟩ | ⟨g, cap, cur, e, hb, hg, hnc, hcm, hsz, htk⟩
  · injection e with e1 e2 e3
    subst e1 e3
    have hnil : l1 = [] := List.eq_nil_of_length_eq_zero e2
    subst hnil
    have hat0 : at_ = 0 := Nat.le_zero.1 hat
    subst hat0
    clear R2 hlen hr e0 e2 hlc hl hat
    have hm1 := B02.out.cell 0
    have hm2 := (B02.out.alloc (.cells #[.int .u64 a1.f0, .int .u64 a1.f1] 61)).cell 0
    have hx1 := B12.out.cell 0
    have hx2 := B12.out.cell 1
    have hW3 : ∃ x, x = (w2.alloc (.cells #[.int .u64 a1.f0, .int .u64 a1.f1] 61)).drew := ⟨_, rfl⟩
    obtain ⟨W3, hW3⟩ := hW3
    have hs3 : W3.heap.size = w2.heap.size + 1 := by rw [hW3]; simp [World.size_alloc]
    have D3 : Below w2.heap.size w2 W3 := by rw [hW3]; exact Below.drew (below_alloc (Below.refl _ _) _)
    have HN : Hid (ReadsRow RPair 2 W3 (some ⟨w2.heap.size, 0, none⟩) 1 [a1]) := Lib.hid (rr_one (by rw [hW3]; exact (Blk.new w2 _ _).2))
    have HALL : Hid (∀ v1 w3, Kd.R k61 61 w3 W3.heap.size (fun _ => True) v1 ([] ++ [a1]) → W3.grownBy w3 none → ∃ A3 c3, v1 = .slice A3 1 c3 ∧ w3.cell? ⟨w.heap.size, 0, none⟩ = some (.slice none 0 0) ∧
        Hid (Kd.R k61 61 w3 W3.heap.size (fun _ => True) v1 ([] ++ [a1])) ∧ Hid (∀ W : World, ReadsRow RPair 2 W none 0 []) ∧ Hid (W3.heap.size ≤ w3.heap.size) ∧
        Hid (∀ v2 w4, Kd.R k61 61 w4 W3.heap.size (fun _ => True) v2 ([] ++ [a1] ++ []) → Below W3.heap.size w3 w4 → ∃ A4 n4 c4, v2 = .slice A4 n4 c4 ∧
          w4.cell? ⟨w.heap.size + 1 + 1, 0, none⟩ = some (.slice none 0 0) ∧ w4.frozen? ⟨w.heap.size + 1 + 1, 0, none⟩ = false ∧ Hid (Kd.R k61 61 w4 w.heap.size (fun _ => True) v2 ([] ++ [a1] ++ [])) ∧ Hid (Blk w4 (w.heap.size + 2) #[.slice none 0 0] 37) ∧ Hid (Below w.heap.size w w4))) := Lib.hid (by
      intro v1 w3 hr3 hg3
      obtain ⟨A3, c3, rfl⟩ := Kd.R_slice hr3
      have b3 : Below W3.heap.size W3 w3 := Below.grown (Below.refl _ _) hg3 (Nat.le_refl _) (by intro k hk; cases hk)
      have b23 : Below w2.heap.size w2 w3 := below_and D3 b3
      refine ⟨_, _, rfl, (B02.out.below b23).cell 0, Lib.hid hr3, Lib.hid (fun _ => ⟨rfl, by decide, fun h => absurd h (Nat.lt_irrefl 0)⟩), Lib.hid b3.size, Lib.hid ?_⟩
      intro v2 w4 hr4 hb4
      obtain ⟨A4, c4, rfl⟩ := Kd.R_slice hr4
      have h34 : w2.heap.size ≤ W3.heap.size := by omega
      have h30 : w.heap.size ≤ W3.heap.size := by omega
      have b24 : Below w2.heap.size w2 w4 := b23.trans (hb4.mono h34)
      have b4 := B22.out.below b24
      exact ⟨_, _, _, rfl, b4.cell 0, b4.frozen 0, Lib.hid (Kd.R_lower hr4 h30), Lib.hid b4, Lib.hid (below_and BW2.out b24)⟩)
    have HA : Hid (∀ W : World, ReadsRow RPair 2 W none 0 []) := Lib.hid (fun _ => ⟨rfl, by decide, fun h => absurd h (Nat.lt_irrefl 0)⟩)
    clear B02 B12 BW2 D3 hs3
    rw [hW3] at HN HALL
    clear hW3
    go_region_law (first
      | (refine R_grow_step k61 rfl (.tmp 17) (.tmp 19) 35 61 (.agg #[.int .u64 0, .int .u64 0]) 16 rfl Try.underlying35 (by kernel_rfl) rfl (by decide) (by decide) none 0 0 [] [a1] ⟨w2.heap.size, 0, none⟩ 1 1 rfl (by intro h; rfl) (by decide) rfl (HA.out _) HN.out (fun _ _ _ _ h => rpairM h) (by decide) ?_; intro v1 w3 hr3 hg3; obtain ⟨A3, c3, rfl, hm3, HR3, HD3, HS4, HALL4⟩ := HALL.out v1 w3 hr3 hg3; clear hr3 hg3 HALL)
      | (refine Kd.R_append_rows_step k61 (w0 := w3) _ rfl (.tmp 20) (.tmp 24) 35 61 (.agg #[.int .u64 0, .int .u64 0]) 16 rfl Try.underlying35 (by kernel_rfl) rfl (by decide) (by decide) (.slice A3 1 c3) ([] ++ [a1]) [] none 0 0 (fun _ => True) (fun _ => False) rfl rfl (by first | exact HR3.out | exact Kd.R_drew HR3.out) (HD3.out _) (fun _ _ h => rpairM h) (by intro k hk; cases hk) (fun _ _ => trivial) (by first | exact Below.refl _ _ | exact Below.drew (Below.refl _ _)) HS4.out (by show (1 + 0) * 16 ≤ 140737488355328; decide) ?_; intro v2 w4 hr4 hb4 _ _; obtain ⟨A4, n4, c4, rfl, hy41, hy42, HR4, HB4, HW4⟩ := HALL4.out v2 w4 hr4 hb4; clear hr4 hb4 HALL4))
    all_goals go_wp2_with fail
    all_goals refine bodyPost_ret (results_cell_row rfl _ _ (w.heap.size + 2) 37 #[.slice A4 n4 c4] (0, 0) _ rfl (blk_put HB4.out.2 0 _ rfl) Try.underlying37 rfl rfl) rfl ?_
    all_goals exact ⟨_, rfl, by rw [← HRES.out]; exact Kd.R_set HR4.out HB4.out.2 (by decide) _ _, Below.setCell (p := ⟨w.heap.size + 1 + 1, 0, none⟩) HW4.out (by show w.heap.size ≤ w.heap.size + 1 + 1; omega) _⟩
  · injection e with e1 e2 e3
    subst e1 e3
    have R2' := Lib.hid (Kd.R_lower R2.out (show w.heap.size + 3 ≤ W.heap.size from Nat.le_of_eq HSZ.out.symm))
    have C2 := Lib.hid (Kd.R_reads' R2.out).2.2
    clear R2 hlen hr hb hg hcm hsz htk hlc
    have hm1 := B02.out.cell 0
    have hm2 := (B02.out.alloc (.cells #[.int .u64 a1.f0, .int .u64 a1.f1] 61)).cell 0
    have hx1 := B12.out.cell 0
    have hx2 := B12.out.cell 1
    have hatc : at_ ≤ c1 := by omega
    have ha2 : (at_ : Int) ≤ (l1.length : Int) := by omega
    obtain ⟨A, hA, hA2⟩ : ∃ A : Addr, (if c1 = at_ then some (⟨g, 0, none⟩ : Addr) else some ⟨g, at_ * 2, none⟩) = some A ∧ Hid (some A = if c1 = at_ then some ⟨g, 0, none⟩ else (some (⟨g, 0, none⟩ : Addr)).map (·.add (at_ * k61.sz))) := by
      by_cases h : c1 = at_
      · exact ⟨⟨g, 0, none⟩, by rw [if_pos h], Lib.hid (by rw [if_pos h])⟩
      · refine ⟨⟨g, at_ * 2, none⟩, by rw [if_neg h], Lib.hid ?_⟩
        rw [if_neg h]
        show some _ = some ((⟨g, 0, none⟩ : Addr).add (at_ * 2))
        simp [Addr.add]
    have hW3 : ∃ x, x = (w2.alloc (.cells #[.int .u64 a1.f0, .int .u64 a1.f1] 61)).drew := ⟨_, rfl⟩
    obtain ⟨W3, hW3⟩ := hW3
    have hs3 : W3.heap.size = w2.heap.size + 1 := by rw [hW3]; simp [World.size_alloc]
    have D3 : Below w2.heap.size w2 W3 := by rw [hW3]; exact Below.drew (below_alloc (Below.refl _ _) _)
    have HN : Hid (ReadsRow RPair 2 W3 (some ⟨w2.heap.size, 0, none⟩) 1 [a1]) := Lib.hid (rr_one (by rw [hW3]; exact (Blk.new w2 _ _).2))
    have HA : Hid (ReadsRow RPair 2 W3 (some ⟨g, 0, none⟩) at_ (l1.take at_)) := Lib.hid (by
      have := Kd.C_take (Kd.C_below C2.out D3) hat
      rw [List.length_take, Nat.min_eq_left hat] at this
      exact rr_pair this)
    have HALL : Hid (∀ v1 w3, Kd.R k61 61 w3 W3.heap.size (fun _ => True) v1 (l1.take at_ ++ [a1]) → W3.grownBy w3 none → ∃ A3 c3, v1 = .slice A3 (at_ + 1) c3 ∧ w3.cell? ⟨w.heap.size, 0, none⟩ = some (.slice (some ⟨g, 0, none⟩) l1.length c1) ∧
        Hid (Kd.R k61 61 w3 W3.heap.size (fun _ => True) v1 (l1.take at_ ++ [a1])) ∧ Hid (ReadsRow RPair 2 w3 (some A) (l1.length - at_) (l1.drop at_)) ∧ Hid (W3.heap.size ≤ w3.heap.size) ∧
        Hid (∀ v2 w4, Kd.R k61 61 w4 W3.heap.size (fun _ => True) v2 (l1.take at_ ++ [a1] ++ l1.drop at_) → Below W3.heap.size w3 w4 → ∃ A4 n4 c4, v2 = .slice A4 n4 c4 ∧
          w4.cell? ⟨w.heap.size + 1 + 1, 0, none⟩ = some (.slice none 0 0) ∧ w4.frozen? ⟨w.heap.size + 1 + 1, 0, none⟩ = false ∧ Hid (Kd.R k61 61 w4 w.heap.size (fun _ => True) v2 (l1.take at_ ++ [a1] ++ l1.drop at_)) ∧ Hid (Blk w4 (w.heap.size + 2) #[.slice none 0 0] 37) ∧ Hid (Below w.heap.size w w4))) := Lib.hid (by
      intro v1 w3 hr3 hg3
      obtain ⟨A3, c3, rfl⟩ := Kd.R_slice hr3
      have hlt1 : (l1.take at_ ++ [a1]).length = at_ + 1 := by rw [List.length_append, List.length_take, Nat.min_eq_left hat]; rfl
      rw [hlt1] at hr3
      rw [hlt1]
      have b3 : Below W3.heap.size W3 w3 := Below.grown (Below.refl _ _) hg3 (Nat.le_refl _) (by intro k hk; cases hk)
      have b23 : Below w2.heap.size w2 w3 := below_and D3 b3
      refine ⟨_, _, rfl, (B02.out.below b23).cell 0, Lib.hid hr3, Lib.hid ?_, Lib.hid b3.size, Lib.hid ?_⟩
      · have := Kd.C_drop (Kd.C_below C2.out b23) hat hnc
        rw [List.length_drop, ← hA2.out] at this
        exact rr_pair this
      · intro v2 w4 hr4 hb4
        obtain ⟨A4, c4, rfl⟩ := Kd.R_slice hr4
        have h34 : w2.heap.size ≤ W3.heap.size := by omega
        have h30 : w.heap.size ≤ W3.heap.size := by omega
        have b24 : Below w2.heap.size w2 w4 := b23.trans (hb4.mono h34)
        have b4 := B22.out.below b24
        exact ⟨_, _, _, rfl, b4.cell 0, b4.frozen 0, Lib.hid (Kd.R_lower hr4 h30), Lib.hid b4, Lib.hid (below_and BW2.out b24)⟩)
    have hlt1 : (l1.take at_ ++ [a1]).length = at_ + 1 := by rw [List.length_append, List.length_take, Nat.min_eq_left hat]; rfl
    have HLT := Lib.hid hlt1
    have HS3 := Lib.hid hs3
    clear C2 B02 B12 BW2 D3 hlt1 hs3
    rw [hW3] at HN HA HALL HS3
    clear hW3
    go_region_law (first
      | (refine R_grow_step k61 rfl (.tmp 17) (.tmp 19) 35 61 (.agg #[.int .u64 0, .int .u64 0]) 16 rfl Try.underlying35 (by kernel_rfl) rfl (by decide) (by decide) (some ⟨g, 0, none⟩) at_ at_ (l1.take at_) [a1] ⟨w2.heap.size, 0, none⟩ 1 1 rfl (by intro h; cases h) (by omega) rfl HA.out HN.out (fun _ _ _ _ h => rpairM h) (by omega) ?_; intro v1 w3 hr3 hg3; obtain ⟨A3, c3, rfl, hm3, HR3, HD3, HS4, HALL4⟩ := HALL.out v1 w3 hr3 hg3; clear hr3 hg3 HALL)
      | (refine Kd.R_append_rows_step k61 (w0 := w3) _ rfl (.tmp 20) (.tmp 24) 35 61 (.agg #[.int .u64 0, .int .u64 0]) 16 rfl Try.underlying35 (by kernel_rfl) rfl (by decide) (by decide) (.slice A3 (at_ + 1) c3) (l1.take at_ ++ [a1]) (l1.drop at_) (some A) (l1.length - at_) (c1 - at_) (fun _ => True) (fun _ => False) rfl rfl (by first | exact HR3.out | exact Kd.R_drew HR3.out) HD3.out (fun _ _ h => rpairM h) (by intro k hk; cases hk) (fun _ _ => trivial) (by first | exact Below.refl _ _ | exact Below.drew (Below.refl _ _)) HS4.out (by rw [HLT.out]; omega) ?_; intro v2 w4 hr4 hb4 _ _; obtain ⟨A4, n4, c4, rfl, hy41, hy42, HR4, HB4, HW4⟩ := HALL4.out v2 w4 hr4 hb4; clear hr4 hb4 HALL4))
    all_goals go_wp2_with fail
    all_goals refine bodyPost_ret (results_cell_row rfl _ _ (w.heap.size + 2) 37 #[.slice A4 n4 c4] (0, 0) _ rfl (blk_put HB4.out.2 0 _ rfl) Try.underlying37 rfl rfl) rfl ?_
    all_goals exact ⟨_, rfl, by rw [← HRES.out]; exact Kd.R_set HR4.out HB4.out.2 (by decide) _ _, Below.setCell (p := ⟨w.heap.size + 1 + 1, 0, none⟩) HW4.out (by show w.heap.size ≤ w.heap.size + 1 + 1; omega) _⟩
theorem seq_Map_with.calls (k : Nat) (A0_0 : Option Addr) (c0_0 : Nat) (l0_0 : List S61) (a1_0 a1_1 : Int) (r1 : List S61) (w : World) (hr0_0 : Kd.C k61 w A0_0 l0_0.length l0_0) (hc0_0 : l0_0.length ≤ c0_0) (h : seq_Map_with.f k l0_0 a1_0 a1_1 = some r1) :
    Calls Try.prog 61 #[.agg #[.slice A0_0 l0_0.length c0_0], .agg #[.int .u64 a1_0, .int .u64 a1_1]] w fun e w' => ∃ v0_ : Value, e = .returned (.agg #[v0_]) ∧ Kd.R k61 61 w' w.heap.size (fun _ => True) v0_ r1 ∧ Below w.heap.size w w' := by
  unfold seq_Map_with.f at h
  obtain ⟨⟨l1, at_⟩, hp, h⟩ := Option.bind_eq_some_iff.1 h
  dsimp only at h
  by_cases h0 : 0 ≤ at_
  · rw [if_pos h0] at h
    by_cases h1 : at_ ≤ (l1.length : Int)
    · rw [if_pos h1] at h
      by_cases hl : l1.length ≤ 1000000
      · rw [if_pos hl] at h
        injection h with h
        subst h
        obtain ⟨n, rfl⟩ := Int.eq_ofNat_of_zero_le h0
        exact with_in k A0_0 c0_0 l0_0 l1 ⟨a1_0, a1_1⟩ n w hr0_0 hc0_0 hp (by omega) hl _ rfl
      · rw [if_neg hl] at h
        cases h
    · rw [if_neg h1] at h
      cases h
  · rw [if_neg h0] at h
    cases h
end Go.Proofs.Ytbonlagecjealaa.GSeq
namespace Go.Proofs.Ytbonlagecjealaa.GSeq
open Go.RowKit Go.Proofs.YtbonlagecjealaaW.PrintWords Go.Proofs.YtbonlagecjealaaW.PrintLast Go.Proofs.YtbonlagecjealaaW.PrintMore
attribute [local go_sem] max2_int min2_int max_two min_two max_three min_three max_four min_four   -- for this text's walks alone
set_option linter.unusedVariables false
set_option linter.unusedSimpArgs false
def seq_Of.l0 : Nat → List (S61) → Int → Int → List (S61) → Option ((List (S61)))
  | 0, _, _, _, _ => none
  | k + 1, x6, x7, x8, x120000 => if x8 < x7 then (if 0 ≤ x8 then (if x8 < (x6.length : Int) then ((seq_Map_with.f k x120000 ((rd_T61 x6 x8).f0) ((rd_T61 x6 x8).f1)).bind fun t122 => (seq_Of.l0 k x6 x7 (wrap64 (x8 + 1)) t122)) else (none)) else (none)) else (some x120000)
def seq_Of.f (k : Nat) (l0 : List (S61)) : Option ((List (S61))) := seq_Of.l0 k l0 (l0.length : Int) 0 ([] : List (S61))
set_option maxHeartbeats 8000000 in
set_option maxRecDepth 100000 in
theorem seq_Of.calls (k : Nat) (A0 : Option Addr) (c0 : Nat) (l0 : List (S61)) (r : List (S61)) (w : World) (hr0 : Kd.C k61 w A0 l0.length l0) (hc0 : l0.length ≤ c0) (h : seq_Of.f k l0 = some r) :
    Calls Try.prog 31 #[.slice A0 l0.length c0] w fun e w' => ∃ v0_ : Value, e = .returned (.agg #[v0_]) ∧ Kd.R k61 61 w' w.heap.size (fun _ => True) v0_ r ∧ Below w.heap.size w w' := by
  have hu37 := Try.underlying37
  have hu61 := Try.underlying61
  have HR0 := Aside0.mk hr0
  have HC0 := Aside0.mk hc0
  clear hr0 hc0
  have HB := Aside0.mk (Below.refl w.heap.size w)
  have H : (seq_Of.l0 k l0 (l0.length : Int) 0 ([] : List (S61))) = some r := h
  clear h
  have H' := Aside0.mk H
  clear H
  go_enter Try.func31, Try.ntmps31
  go_wp2_with (first | ((with_reducible refine gate_dst (N := 2) rfl ?_); refine box_event ?hg (N := 2) ?hd (cs := #[.slice none 0 0]) (t := 37) ?hr ?_; (case hd => rfl); (case hg => rfl); (case hr => first | (go_simp; done) | (go_simp; rfl)); intro gb118 hg w2 hbox hb; have n0_ := Aside0.mk (below_step (by repeat (first | (with_reducible first | exact HB.out | apply below_alloc | apply pw_below_drewN | apply below_drew1) | exact HB.out)) hb); have n1_ := Aside0.mk (hbox); have n2_ := Aside0.mk ((by rw [hg]; exact (below_size (by repeat (first | (with_reducible first | exact HB.out | apply below_alloc | apply pw_below_drewN | apply below_drew1) | exact HB.out))) : w.heap.size ≤ gb118)); have n3_ := Aside0.mk ((by rw [hg]; exact (below_size (by repeat (first | (with_reducible first | exact HB.out | apply below_alloc | apply pw_below_drewN | apply below_drew1) | exact HB.out))) : w.heap.size ≤ gb118)); clear HB; have HB := n0_; have BK118 := n1_; have GW118 := n2_; have GE118 := n3_; clear n0_ n1_ n2_ n3_; clear hb hbox hg) | ((with_reducible refine gate_dst (N := 3) rfl ?_); refine box_event ?hg (N := 3) ?hd (cs := #[.slice none 0 0]) (t := 37) ?hr ?_; (case hd => rfl); (case hg => rfl); (case hr => first | (go_simp; done) | (go_simp; rfl)); intro gb119 hg w3 hbox hb; have n0_ := Aside0.mk (blk_below (g := gb118) (o := .cells #[.slice none 0 0] 37 (0, 0)) (by (with_reducible repeat (first | refine blk_drewN ?_ _ | refine blk_drew ?_ | refine blk_alloc ?_ _)); exact BK118.out) hb); have n1_ := Aside0.mk (below_step (by repeat (first | (with_reducible first | exact HB.out | apply below_alloc | apply pw_below_drewN | apply below_drew1 | refine below_set ?_ GE118.out) | exact HB.out)) hb); have n2_ := Aside0.mk (hbox); have n3_ := Aside0.mk ((by rw [hg]; exact (below_size (by repeat (first | (with_reducible first | exact HB.out | apply below_alloc | apply pw_below_drewN | apply below_drew1 | refine below_set ?_ GE118.out) | exact HB.out))) : w.heap.size ≤ gb119)); have n4_ := Aside0.mk ((by rw [hg]; exact (below_size (by repeat (first | (with_reducible first | exact HB.out | apply below_alloc | apply pw_below_drewN | apply below_drew1 | refine below_set ?_ GE118.out) | exact HB.out))) : w.heap.size ≤ gb119)); have n5_ := Aside0.mk ((by rw [hg]; exact Nat.ne_of_lt (blk_lt (g := gb118) (o := .cells #[.slice none 0 0] 37 (0, 0)) (by (with_reducible repeat (first | refine blk_drewN ?_ _ | refine blk_drew ?_ | refine blk_alloc ?_ _)); exact BK118.out)) : gb118 ≠ gb119)); have n6_ := Aside0.mk ((by rw [hg]; exact Nat.ne_of_gt (blk_lt (g := gb118) (o := .cells #[.slice none 0 0] 37 (0, 0)) (by (with_reducible repeat (first | refine blk_drewN ?_ _ | refine blk_drew ?_ | refine blk_alloc ?_ _)); exact BK118.out)) : gb119 ≠ gb118)); clear BK118; clear HB; have BK118 := n0_; have HB := n1_; have BK119 := n2_; have GW119 := n3_; have GE119 := n4_; have NB118_119 := n5_; have NB119_118 := n6_; clear n0_ n1_ n2_ n3_ n4_ n5_ n6_; clear hb hbox hg))
  go_loopg [8] k (fun kq v8 w' => ∃ (x8_1 : Int) (x120000_1 : List (S61)) (u120000 : Value), v8 = .int .i64 x8_1 ∧ Aside0 (seq_Of.l0 kq l0 (l0.length : Int) x8_1 x120000_1 = some r) ∧ Aside0 (kq ≤ k) ∧ Aside0 (Kd.R k61 61 w' w.heap.size (fun _ => True) u120000 x120000_1) ∧ Aside0 (w'.heap[gb118]? = some (.cells #[(.slice none 0 0)] 37 (0, 0))) ∧ Aside0 (w'.heap[gb119]? = some (.cells #[u120000] 37 (0, 0))) ∧ Aside0 (Below w.heap.size w w'))
  case atStart => exact ⟨(0), (([] : List (S61))), (.slice none 0 0), (by first | rfl | (simp; done) | (simp [*]; done)), H', ⟨Nat.le_refl _⟩, ⟨by first | exact Kd.R_nil _ _ _ _ _ | exact Kd.N_nil _ _ _ _ _ | exact Kd.V_nil _ _ _ _ _ | exact Kd.Q_nil _ _ _ _ _ | exact Kd.S_nil _ _ _ _ _⟩, ⟨by (with_reducible repeat (first | refine blk_drewN ?_ _ | refine blk_drew ?_ | refine blk_alloc ?_ _)); exact BK118.out⟩, ⟨by (with_reducible repeat (first | refine blk_drewN ?_ _ | refine blk_drew ?_ | refine blk_alloc ?_ _)); exact BK119.out⟩, ⟨by repeat (first | (with_reducible first | exact HB.out | apply below_alloc | apply pw_below_drewN | apply below_drew1 | refine below_set ?_ GE118.out | refine below_set ?_ GE119.out) | exact HB.out)⟩⟩
  case round =>
    clear H'
    try clear p2
    try clear c3
    obtain ⟨x8_1, x120000_1, u120000, rfl, HA, HK1, HO_120000, BK118, BK119, HB⟩ := hrel
    cases gk with
    | zero => exact absurd HA.out (by simp [seq_Of.l0])
    | succ k1 =>
      have H := HA.out
      clear HA
      simp only [seq_Of.l0] at H
      by_cases c4 : x8_1 < (l0.length : Int)
      · rw [if_pos c4] at H
        have c4b0 : decide (x8_1 < (l0.length : Int)) = true := decide_eq_true c4
        clear c4
        by_cases c5 : 0 ≤ x8_1
        · rw [if_pos c5] at H
          have c5b0 : decide (0 ≤ x8_1) = true := decide_eq_true c5
          clear c5
          by_cases c6 : x8_1 < (l0.length : Int)
          · rw [if_pos c6] at H
            have c6b0 : decide (x8_1 < (l0.length : Int)) = true := decide_eq_true c6
            clear c6
            replace H := Option.bind_eq_some_iff.mp H
            obtain ⟨t122, A70, H⟩ := H
            replace H : (seq_Of.l0 k1 l0 (l0.length : Int) (wrap64 (x8_1 + 1)) t122) = some r := H
            have A7 := Aside0.mk A70
            clear A70
            have H' := Aside0.mk H
            clear H
            have p120 : 0 ≤ (x8_1 : Int) := of_decide_eq_true (by first | (with_reducible assumption) | assumption)
            have q120 : x8_1 < (l0.length : Int) := of_decide_eq_true (by first | (with_reducible assumption) | assumption)
            obtain ⟨ad120, e120, hx120_0, hx120_1⟩ := at_T61 HR0.out x8_1 p120 q120
            cases e120
            replace hx120_0 := (HB.out.cell (World.block_lt_of_cell? w _ hx120_0)).trans hx120_0
            replace hx120_1 := (HB.out.cell (World.block_lt_of_cell? w _ hx120_1)).trans hx120_1
            replace p120 := eq_true p120
            replace q120 := eq_true q120
            go_wp2_with (first | ((with_reducible refine gate_dst (N := 5) rfl ?_); refine box_event ?hg (N := 5) ?hd (cs := #[.int .u64 0, .int .u64 0]) (t := 61) ?hr ?_; (case hd => rfl); (case hg => rfl); (case hr => first | (go_simp; done) | (go_simp; rfl)); intro gb121 hg w8 hbox hb; have n0_ := Aside0.mk (Kd.R_below (Kd.R_elderB (by (with_reducible repeat (first | apply Kd.R_alloc | apply Kd.R_drewN | apply Kd.R_drew)); exact HO_120000.out) gb121 (Nat.le_of_eq hg.symm)) hb); have n1_ := Aside0.mk (blk_below (g := gb118) (o := .cells #[.slice none 0 0] 37 (0, 0)) (by (with_reducible repeat (first | refine blk_drewN ?_ _ | refine blk_drew ?_ | refine blk_alloc ?_ _)); exact BK118.out) hb); have n2_ := Aside0.mk (blk_below (g := gb119) (o := .cells #[u120000] 37 (0, 0)) (by (with_reducible repeat (first | refine blk_drewN ?_ _ | refine blk_drew ?_ | refine blk_alloc ?_ _)); exact BK119.out) hb); have n3_ := Aside0.mk (below_step (by repeat (first | (with_reducible first | exact HB.out | apply below_alloc | apply pw_below_drewN | apply below_drew1 | refine below_set ?_ GE118.out | refine below_set ?_ GE119.out) | exact HB.out)) hb); have n4_ := Aside0.mk (hbox); have n5_ := Aside0.mk ((by rw [hg]; exact (below_size (by repeat (first | (with_reducible first | exact HB.out | apply below_alloc | apply pw_below_drewN | apply below_drew1 | refine below_set ?_ GE118.out | refine below_set ?_ GE119.out) | exact HB.out))) : w.heap.size ≤ gb121)); have n6_ := Aside0.mk ((by rw [hg]; exact (below_size (by repeat (first | (with_reducible first | exact HB.out | apply below_alloc | apply pw_below_drewN | apply below_drew1 | refine below_set ?_ GE118.out | refine below_set ?_ GE119.out) | exact HB.out))) : w.heap.size ≤ gb121)); have n7_ := Aside0.mk ((by rw [hg]; exact Nat.ne_of_lt (blk_lt (g := gb118) (o := .cells #[.slice none 0 0] 37 (0, 0)) (by (with_reducible repeat (first | refine blk_drewN ?_ _ | refine blk_drew ?_ | refine blk_alloc ?_ _)); exact BK118.out)) : gb118 ≠ gb121)); have n8_ := Aside0.mk ((by rw [hg]; exact Nat.ne_of_gt (blk_lt (g := gb118) (o := .cells #[.slice none 0 0] 37 (0, 0)) (by (with_reducible repeat (first | refine blk_drewN ?_ _ | refine blk_drew ?_ | refine blk_alloc ?_ _)); exact BK118.out)) : gb121 ≠ gb118)); have n9_ := Aside0.mk ((by rw [hg]; exact Nat.ne_of_lt (blk_lt (g := gb119) (o := .cells #[u120000] 37 (0, 0)) (by (with_reducible repeat (first | refine blk_drewN ?_ _ | refine blk_drew ?_ | refine blk_alloc ?_ _)); exact BK119.out)) : gb119 ≠ gb121)); have n10_ := Aside0.mk ((by rw [hg]; exact Nat.ne_of_gt (blk_lt (g := gb119) (o := .cells #[u120000] 37 (0, 0)) (by (with_reducible repeat (first | refine blk_drewN ?_ _ | refine blk_drew ?_ | refine blk_alloc ?_ _)); exact BK119.out)) : gb121 ≠ gb119)); clear HO_120000; clear BK118; clear BK119; clear HB; have HO_120000 := n0_; have BK118 := n1_; have BK119 := n2_; have HB := n3_; have BK121 := n4_; have GW121 := n5_; have GE121 := n6_; have NB118_121 := n7_; have NB121_118 := n8_; have NB119_121 := n9_; have NB121_119 := n10_; clear n0_ n1_ n2_ n3_ n4_ n5_ n6_ n7_ n8_ n9_ n10_; clear hb hbox hg; have hnb9 := NB121_118.out; have hnc9 := NB118_121.out; have hnb10 := NB121_119.out; have hnc10 := NB119_121.out; have hcz11_0 : w8.cell? ⟨gb121, 0, none⟩ = some (.int .u64 0) := (blk_cell BK121.out 0).trans rfl; have hcz11_1 : w8.cell? ⟨gb121, 1, none⟩ = some (.int .u64 0) := (blk_cell BK121.out 1).trans rfl; have hfz11_0 := blk_frozen BK121.out 0; have hfz11_1 := blk_frozen BK121.out 1; have hnb12 := NB119_118.out; have hnc12 := NB118_119.out; have hcz13_0 : w8.cell? ⟨gb119, 0, none⟩ = some (u120000) := (blk_cell BK119.out 0).trans rfl; have hfz13_0 := blk_frozen BK119.out 0; obtain ⟨Ao14, co14, eo14⟩ := Kd.R_slice HO_120000.out; subst eo14) | ((with_reducible refine gate_callee (f := 61) rfl ?_); refine goesL_ (some 14) rfl rfl Try.func61 (by kernel_rfl) rfl #[.agg #[.slice Ao14 x120000_1.length co14], .agg #[.int .u64 ((rd_T61 l0 x8_1).f0), .int .u64 ((rd_T61 l0 x8_1).f1)]] rfl (by (try simp only [List.map_toArray, List.map_cons, List.map_nil]); first | done | rfl | (simp only [List.length_drop, List.length_take]; rfl)) ?_; (with_reducible refine (seq_Map_with.calls k1 _ _ x120000_1 ((rd_T61 l0 x8_1).f0) ((rd_T61 l0 x8_1).f1) t122 _ ?side1 ?side2 A7.out).mono ?_); (case side1 => refine (Kd.R_reads' (e := 61) (base := w.heap.size) (ok := fun k_ => (True ∧ k_ ≠ gb121)) (n := x120000_1.length) (c := co14) ?_).2.2; exact (by (with_reducible repeat (first | apply Kd.R_alloc | apply Kd.R_drewN | apply Kd.R_drew)); exact (Kd.R_mono (Kd.R_far (p := ⟨gb121, 1, none⟩) (Kd.R_far (p := ⟨gb121, 0, none⟩) (Kd.R_mono HO_120000.out (fun k_ hk => (⟨hk, hk.2⟩ : _ ∧ k_ ≠ gb121))) (fun _ hk => hk.2) (.int .u64 ((rd_T61 l0 x8_1).f0))) (fun _ hk => hk.2) (.int .u64 ((rd_T61 l0 x8_1).f1))) (fun _ h_ => h_.1)))); (case side2 => exact (Kd.R_reads' HO_120000.out).2.1); rintro e w15 ⟨v123, rfl, ho0, hb⟩; refine ⟨_, rfl, ?_⟩; have n0_ := Aside0.mk (Kd.R_elder' (by (with_reducible repeat (first | apply Kd.R_alloc | apply Kd.R_drewN | apply Kd.R_drew)); exact (Kd.R_mono (Kd.R_far (p := ⟨gb121, 1, none⟩) (Kd.R_far (p := ⟨gb121, 0, none⟩) (Kd.R_mono HO_120000.out (fun k_ hk => (⟨hk, hk.2⟩ : _ ∧ k_ ≠ gb121))) (fun _ hk => hk.2) (.int .u64 ((rd_T61 l0 x8_1).f0))) (fun _ hk => hk.2) (.int .u64 ((rd_T61 l0 x8_1).f1))) (fun _ h_ => h_.1))) (Kd.R_base ho0) hb); have n1_ := Aside0.mk (Kd.R_lower (Kd.R_newB (Kd.R_new' ho0 (Kd.R_lt (by (with_reducible repeat (first | apply Kd.R_alloc | apply Kd.R_drewN | apply Kd.R_drew)); exact (Kd.R_mono (Kd.R_far (p := ⟨gb121, 1, none⟩) (Kd.R_far (p := ⟨gb121, 0, none⟩) (Kd.R_mono HO_120000.out (fun k_ hk => (⟨hk, hk.2⟩ : _ ∧ k_ ≠ gb121))) (fun _ hk => hk.2) (.int .u64 ((rd_T61 l0 x8_1).f0))) (fun _ hk => hk.2) (.int .u64 ((rd_T61 l0 x8_1).f1))) (fun _ h_ => h_.1))))) (g := gb121) (o := .cells #[.int .u64 ((rd_T61 l0 x8_1).f0), .int .u64 ((rd_T61 l0 x8_1).f1)] 61 (0, 0)) (by (with_reducible repeat (first | refine blk_drewN ?_ _ | refine blk_drew ?_ | refine blk_alloc ?_ _)); refine blk_put (cs := #[.int .u64 ((rd_T61 l0 x8_1).f0), .int .u64 0]) ?_ 1 _ rfl; (with_reducible repeat (first | refine blk_drewN ?_ _ | refine blk_drew ?_ | refine blk_alloc ?_ _)); refine blk_put (cs := #[.int .u64 0, .int .u64 0]) ?_ 0 _ rfl; (with_reducible repeat (first | refine blk_drewN ?_ _ | refine blk_drew ?_ | refine blk_alloc ?_ _)); exact BK121.out)) (below_size (by repeat (first | (with_reducible first | exact HB.out | apply below_alloc | apply pw_below_drewN | apply below_drew1 | refine below_set ?_ GE118.out | refine below_set ?_ GE119.out | refine below_set ?_ GE121.out) | exact HB.out)))); have n2_ := Aside0.mk (blk_below (g := gb118) (o := .cells #[.slice none 0 0] 37 (0, 0)) (by (with_reducible repeat (first | refine blk_drewN ?_ _ | refine blk_drew ?_ | refine blk_alloc ?_ _)); refine blk_far ?_ NB118_121.out _; (with_reducible repeat (first | refine blk_drewN ?_ _ | refine blk_drew ?_ | refine blk_alloc ?_ _)); refine blk_far ?_ NB118_121.out _; (with_reducible repeat (first | refine blk_drewN ?_ _ | refine blk_drew ?_ | refine blk_alloc ?_ _)); exact BK118.out) hb); have n3_ := Aside0.mk (blk_below (g := gb119) (o := .cells #[.slice Ao14 x120000_1.length co14] 37 (0, 0)) (by (with_reducible repeat (first | refine blk_drewN ?_ _ | refine blk_drew ?_ | refine blk_alloc ?_ _)); refine blk_far ?_ NB119_121.out _; (with_reducible repeat (first | refine blk_drewN ?_ _ | refine blk_drew ?_ | refine blk_alloc ?_ _)); refine blk_far ?_ NB119_121.out _; (with_reducible repeat (first | refine blk_drewN ?_ _ | refine blk_drew ?_ | refine blk_alloc ?_ _)); exact BK119.out) hb); have n4_ := Aside0.mk (blk_below (g := gb121) (o := .cells #[.int .u64 ((rd_T61 l0 x8_1).f0), .int .u64 ((rd_T61 l0 x8_1).f1)] 61 (0, 0)) (by (with_reducible repeat (first | refine blk_drewN ?_ _ | refine blk_drew ?_ | refine blk_alloc ?_ _)); refine blk_put (cs := #[.int .u64 ((rd_T61 l0 x8_1).f0), .int .u64 0]) ?_ 1 _ rfl; (with_reducible repeat (first | refine blk_drewN ?_ _ | refine blk_drew ?_ | refine blk_alloc ?_ _)); refine blk_put (cs := #[.int .u64 0, .int .u64 0]) ?_ 0 _ rfl; (with_reducible repeat (first | refine blk_drewN ?_ _ | refine blk_drew ?_ | refine blk_alloc ?_ _)); exact BK121.out) hb); have n5_ := Aside0.mk (below_step (by repeat (first | (with_reducible first | exact HB.out | apply below_alloc | apply pw_below_drewN | apply below_drew1 | refine below_set ?_ GE118.out | refine below_set ?_ GE119.out | refine below_set ?_ GE121.out) | exact HB.out)) hb); clear HO_120000; clear BK118; clear BK119; clear BK121; clear HB; have HO_120000 := n0_; have HO124 := n1_; have BK118 := n2_; have BK119 := n3_; have BK121 := n4_; have HB := n5_; clear n0_ n1_ n2_ n3_ n4_ n5_; (try clear hb); (try clear hb2); (try clear hk); (try clear hi); (try clear ho0); obtain ⟨Ao16, co16, eo16⟩ := Kd.R_slice HO124.out; subst eo16; have hcz17_0 : w15.cell? ⟨gb119, 0, none⟩ = some (.slice Ao14 x120000_1.length co14) := (blk_cell BK119.out 0).trans rfl; have hfz17_0 := blk_frozen BK119.out 0))
            go_roundg k1
            case measure => have := HK1.out; omega
            case rel => exact ⟨(wrap64 (x8_1 + 1)), (t122), (.slice Ao16 t122.length co16), (by first | rfl | (simp; done) | (simp [*]; done)), H', ⟨by have := HK1.out; omega⟩, ⟨by (with_reducible repeat (first | apply Kd.R_alloc | apply Kd.R_drewN | apply Kd.R_drew)); exact Kd.R_mono (Kd.R_far (p := ⟨gb119, 0, none⟩) (Kd.R_types HO124.out BK119.out (by decide)) (fun _ hk => hk.2) (.slice Ao16 t122.length co16)) (fun _ hk => trivial)⟩, ⟨by (with_reducible repeat (first | refine blk_drewN ?_ _ | refine blk_drew ?_ | refine blk_alloc ?_ _)); refine blk_far ?_ NB118_119.out _; (with_reducible repeat (first | refine blk_drewN ?_ _ | refine blk_drew ?_ | refine blk_alloc ?_ _)); exact BK118.out⟩, ⟨by (with_reducible repeat (first | refine blk_drewN ?_ _ | refine blk_drew ?_ | refine blk_alloc ?_ _)); refine blk_put (cs := #[.slice Ao14 x120000_1.length co14]) ?_ 0 _ rfl; (with_reducible repeat (first | refine blk_drewN ?_ _ | refine blk_drew ?_ | refine blk_alloc ?_ _)); exact BK119.out⟩, ⟨by repeat (first | (with_reducible first | exact HB.out | apply below_alloc | apply pw_below_drewN | apply below_drew1 | refine below_set ?_ GE118.out | refine below_set ?_ GE119.out | refine below_set ?_ GE121.out) | exact HB.out)⟩⟩
          · rw [if_neg c6] at H
            exact absurd H (by simp)
        · rw [if_neg c5] at H
          exact absurd H (by simp)
      · rw [if_neg c4] at H
        have c4b0 : decide (x8_1 < (l0.length : Int)) = false := decide_eq_false c4
        clear c4
        obtain rfl := Option.some.inj H
        have hnb18 := NB119_118.out
        have hnc18 := NB118_119.out
        have hcz19_0 : wr.cell? ⟨gb119, 0, none⟩ = some (u120000) := (blk_cell BK119.out 0).trans rfl
        have hfz19_0 := blk_frozen BK119.out 0
        obtain ⟨Ao20, co20, eo20⟩ := Kd.R_slice HO_120000.out
        subst eo20
        have hcz21_0 : wr.cell? ⟨gb118, 0, none⟩ = some (.slice none 0 0) := (blk_cell BK118.out 0).trans rfl
        have hfz21_0 := blk_frozen BK118.out 0
        go_wp2
        refine bodyPost_ret (results_cell_row rfl _ _ gb118 37 #[.slice Ao20 x120000_1.length co20] (0, 0) _ rfl (by (with_reducible repeat (first | refine blk_drewN ?_ _ | refine blk_drew ?_ | refine blk_alloc ?_ _)); refine blk_put (cs := #[.slice none 0 0]) ?_ 0 _ rfl; (with_reducible repeat (first | refine blk_drewN ?_ _ | refine blk_drew ?_ | refine blk_alloc ?_ _)); exact BK118.out) Try.underlying37 rfl (by kernel_rfl)) rfl ?_
        exact ⟨_, by first | rfl | (simp [errW_none, errW_some] <;> rfl) | (simp [*, errW_none, errW_some] <;> rfl), by (with_reducible repeat (first | apply Kd.R_alloc | apply Kd.R_drewN | apply Kd.R_drew)); exact Kd.R_mono (Kd.R_far (p := ⟨gb118, 0, none⟩) (Kd.R_types HO_120000.out BK118.out (by decide)) (fun _ hk => hk.2) (.slice Ao20 x120000_1.length co20)) (fun _ hk => trivial), by repeat (first | (with_reducible first | exact HB.out | apply below_alloc | apply pw_below_drewN | apply below_drew1 | refine below_set ?_ GE118.out | refine below_set ?_ GE119.out) | exact HB.out)⟩
def seq_Map_Pairs.f (l0_0 : List (S61)) : Option ((List (S61))) := (seq_Pair_32.f l0_0).bind fun t126 => (some t126)
set_option maxHeartbeats 8000000 in
set_option maxRecDepth 100000 in
theorem seq_Map_Pairs.calls (A0_0 : Option Addr) (c0_0 : Nat) (l0_0 : List (S61)) (r : List (S61)) (w : World) (hr0_0 : Kd.C k61 w A0_0 l0_0.length l0_0) (hc0_0 : l0_0.length ≤ c0_0) (h : seq_Map_Pairs.f l0_0 = some r) :
    Calls Try.prog 13 #[.agg #[.slice A0_0 l0_0.length c0_0]] w fun e w' => ∃ v0_ : Value, e = .returned (v0_) ∧ Kd.R k61 61 w' w.heap.size (fun _ => True) v0_ r ∧ Below w.heap.size w w' := by
  have hu37 := Try.underlying37
  have HR0_0 := Aside0.mk hr0_0
  have HC0_0 := Aside0.mk hc0_0
  clear hr0_0 hc0_0
  have HB := Aside0.mk (Below.refl w.heap.size w)
  have H : ((seq_Pair_32.f l0_0).bind fun t126 => (some t126)) = some r := h
  clear h
  replace H := Option.bind_eq_some_iff.mp H
  obtain ⟨t126, A20, H⟩ := H
  replace H : (some t126) = some r := H
  have A2 := Aside0.mk A20
  clear A20
  obtain rfl := Option.some.inj H
  go_enter Try.func13, Try.ntmps13
  go_wp2_with (first | ((with_reducible refine gate_dst (N := 1) rfl ?_); refine box_event ?hg (N := 1) ?hd (cs := #[.slice A0_0 l0_0.length c0_0]) (t := 37) ?hr ?_; (case hd => rfl); (case hg => rfl); (case hr => first | (go_simp; done) | (go_simp; rfl)); intro gb125 hg w3 hbox hb; have n0_ := Aside0.mk (below_step (by repeat (first | (with_reducible first | exact HB.out | apply below_alloc | apply pw_below_drewN | apply below_drew1) | exact HB.out)) hb); have n1_ := Aside0.mk (hbox); have n2_ := Aside0.mk ((by rw [hg]; exact (below_size (by repeat (first | (with_reducible first | exact HB.out | apply below_alloc | apply pw_below_drewN | apply below_drew1) | exact HB.out))) : w.heap.size ≤ gb125)); have n3_ := Aside0.mk ((by rw [hg]; exact (below_size (by repeat (first | (with_reducible first | exact HB.out | apply below_alloc | apply pw_below_drewN | apply below_drew1) | exact HB.out))) : w.heap.size ≤ gb125)); clear HB; have HB := n0_; have BK125 := n1_; have GW125 := n2_; have GE125 := n3_; clear n0_ n1_ n2_ n3_; clear hb hbox hg; have hcz4_0 : w3.cell? ⟨gb125, 0, none⟩ = some (.slice A0_0 l0_0.length c0_0) := (blk_cell BK125.out 0).trans rfl; have hfz4_0 := blk_frozen BK125.out 0) | ((with_reducible refine gate_callee (f := 32) rfl ?_); refine goesL_ (some 5) rfl rfl Try.func32 (by kernel_rfl) rfl #[.slice A0_0 l0_0.length c0_0] rfl (by (try simp only [List.map_toArray, List.map_cons, List.map_nil]); first | done | rfl | (simp only [List.length_drop, List.length_take]; rfl)) ?_; (with_reducible refine (seq_Pair_32.calls _ _ l0_0 t126 _ ?side1 ?side2 A2.out).mono ?_); (case side1 => repeat (first | exact (Kd.C_below HR0_0.out HB.out) | (with_reducible refine Kd.C_alloc ?_ _) | (with_reducible refine Kd.C_drewN ?_ _) | (with_reducible refine Kd.C_drew ?_))); (case side2 => exact HC0_0.out); rintro e w5 ⟨v127, rfl, ho0, hb⟩; refine ⟨_, rfl, ?_⟩; have n0_ := Aside0.mk (Kd.R_lower ho0 (below_size (by repeat (first | (with_reducible first | exact HB.out | apply below_alloc | apply pw_below_drewN | apply below_drew1 | refine below_set ?_ GE125.out) | exact HB.out)))); have n1_ := Aside0.mk (blk_below (g := gb125) (o := .cells #[.slice A0_0 l0_0.length c0_0] 37 (0, 0)) (by (with_reducible repeat (first | refine blk_drewN ?_ _ | refine blk_drew ?_ | refine blk_alloc ?_ _)); exact BK125.out) hb); have n2_ := Aside0.mk (below_step (by repeat (first | (with_reducible first | exact HB.out | apply below_alloc | apply pw_below_drewN | apply below_drew1 | refine below_set ?_ GE125.out) | exact HB.out)) hb); clear BK125; clear HB; have HO128 := n0_; have BK125 := n1_; have HB := n2_; clear n0_ n1_ n2_; (try clear hb); (try clear hb2); (try clear hk); (try clear hi); (try clear ho0)))
  go_ret
  exact ⟨_, by first | rfl | (simp [errW_none, errW_some] <;> rfl) | (simp [*, errW_none, errW_some] <;> rfl), by (with_reducible repeat (first | apply Kd.R_alloc | apply Kd.R_drewN | apply Kd.R_drew)); exact HO128.out, by repeat (first | (with_reducible first | exact HB.out | apply below_alloc | apply pw_below_drewN | apply below_drew1 | refine below_set ?_ GE125.out) | exact HB.out)⟩
end Go.Proofs.Ytbonlagecjealaa.GSeq
