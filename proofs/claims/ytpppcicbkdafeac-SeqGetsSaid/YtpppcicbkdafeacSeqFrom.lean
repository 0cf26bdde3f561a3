/-
The keys of a map from one on, told one by one: the iterator's contract.
-/
import Derived.Test.YtpppcicbkdafeacE5
import Derived.Shelf.Abstract
import Derived.Shelf.RegionOpen
import Derived.OwnWalkIn
import Derived.TacticsInMore
import Derived.LoopNIn
namespace Go.Eng
open Go.Proofs Go.RowKit Go.Proofs.YtpppcicbkdafeacW.PrintWords Go.Proofs.Ytpppcicbkdafeac.GSeq
set_option linter.unusedVariables false
set_option linter.unusedSimpArgs false
theorem KG.agree {G : List Nat} {w W : World} (h : KG w.heap.size G w W) : Agree G w W := ⟨h.os, h.tape, h.output, h.size, fun b hb hn => h.block b hb hn⟩
theorem KG.of_below {n₀ : Nat} {G : List Nat} {A B : World} {b : Nat} (h : Below b A B) (h1 : n₀ ≤ b) : KG n₀ G A B := ⟨h.os, h.tape, h.output, h.size, fun k hk _ => h.block k (by omega)⟩
theorem abides_below {β : Type} {B : Nat} {J : β → World → Prop} (hJ : AbidesFrom B J) {s : β} {W W' : World} (h : J s W) (hb : Below W.heap.size W W') : J s W' :=
  hJ s W W' none h ⟨hb.os, hb.tape, hb.output, hb.size, fun k hk _ => hb.block k hk⟩ (fun r e => by cases e)
theorem tri_disj {w0 w : World} {I : Ix} {L Lm : HL} {i b : Nat} {o : Obj} (ht : Tri w0 I w L) (hi : L[i]? = some (.b b o)) {idx : List Nat} (hp : pick L idx = some Lm) (hn : i ∉ idx) : b ∉ ids Lm := by
  intro hm
  obtain ⟨j, hj, u, hu⟩ := pick_sub hp b hm
  exact hn (nodup_idx ht.nodup hi hu ▸ hj)
theorem pick_ids {L Lm : HL} {idx : List Nat} (hp : pick L idx = some Lm) : ∀ x ∈ ids Lm, x ∈ ids L := by
  intro x hx
  obtain ⟨i, _, o, ho⟩ := pick_sub hp x hx
  exact mem_ids.2 ⟨o, List.mem_of_getElem? ho⟩
def KeysFrom (l : List S52) (at_ : Nat) : List Int := (l.drop at_).map (·.f0)
theorem keysFrom_take (l : List S52) (at_ k : Nat) (hk : k < l.length - at_) : (KeysFrom l at_).take (k + 1) = (KeysFrom l at_).take k ++ [(rd_T52 (l.drop at_) k).f0] := by
  have hlen : k < (KeysFrom l at_).length := by simp only [KeysFrom, List.length_map, List.length_drop]; exact hk
  rw [List.take_add_one, List.getElem?_eq_getElem hlen]
  congr 1
  simp only [KeysFrom, List.getElem_map, Option.toList, rd_T52, Int.toNat_natCast]
  rw [List.getD_eq_getElem?_getD, List.getElem?_eq_getElem (by rw [List.length_drop]; exact hk)]
  rfl
set_option maxHeartbeats 2000000 in
set_option maxRecDepth 100000 in
theorem from1_stops (k n : Nat) (hn : 1 ≤ n) (bm bk : Nat) (G : List Nat) (A : Option Addr) (c : Nat) (l : List S52) (least : Int) (at_ : Nat) (is : Bool) (hp : seq_Map_place.f k l least = some ((at_ : Int), is)) (hat : at_ ≤ l.length) (hlm : l.length ≤ 1000000)
    (w : World) (hBm : w.heap[bm]? = some (.cells #[.slice A l.length c] 27 (0, 0))) (hBk : w.heap[bk]? = some (.cells #[.int .u64 least] 29 (0, 0))) (hmg : bm ∉ G) (hkg : bk ∉ G) (hC : Stab G w (KC k52 A c l)) :
    SeqStopsK Fence.wide n Try.prog 33 #[.pointer (some ⟨bm, 0, none⟩), .pointer (some ⟨bk, 0, none⟩)] (fun x : Int => #[Value.int .u64 x]) (KG w.heap.size G) (fun ys => ys = KeysFrom l at_) (fun pre => pre <+: KeysFrom l at_) (l.length - at_) w := fun L J Jx W hW hJ hJx hY h0 => by
  have hsz := hW.size
  have M := Lib.hid (Blk.below (w := w) ⟨(Array.getElem?_eq_some_iff.1 hBm).1, hBm⟩ hW)
  have K := Lib.hid (Blk.below (w := w) ⟨(Array.getElem?_eq_some_iff.1 hBk).1, hBk⟩ hW)
  have CW := Lib.hid (hC W (Agree.of_below hW))
  have HP := Lib.hid (seq_Map_place.calls k A c l least at_ is W CW.out.1 CW.out.2 hp)
  have hl : l.length ≤ c := CW.out.2
  have hm1 := M.out.cell 0
  have hk1 := K.out.cell 0
  have HC := Lib.hid hC
  have HW := Lib.hid hW
  clear hBm hBk hW hC CW hp
  refine callsIn_of_wp Try.func33 rfl trivial ?_ rfl
  simp only [Try.ntmps33, List.size_toArray, List.length_cons, List.length_nil, Nat.reduceAdd, Nat.reduceSub, Array.replicate_succ, Array.replicate_zero, List.push_toArray, List.append_toArray, List.nil_append, List.cons_append]
  have hatc : at_ ≤ c := by omega
  have ha2 : (at_ : Int) ≤ (l.length : Int) := by omega
  obtain ⟨A', hA, hA2⟩ : ∃ A' : Option Addr, (if c = at_ then A else Option.map (fun x => x.add (at_ * 2)) A) = A' ∧ Hid (A' = if c = at_ then A else A.map (·.add (at_ * k52.sz))) := ⟨_, rfl, Lib.hid rfl⟩
  have hln : l.length - at_ ≤ 1000000 := by omega
  gi_wp2_with (refine ⟨trivial, ?_⟩; gi_at_call 31; refine (callsIn_wide.2 HP.out).mono ?_; clear HP; rintro e w1 ⟨rfl, hbp⟩; have hm2 := (M.out.below hbp).cell 0; have hk2 := (K.out.below hbp).cell 0)
  have h1 : J [] w1 := abides_below hJ h0 hbp
  have hs1 : W.heap.size ≤ w1.heap.size := hbp.size
  have CB := Lib.hid (KG.of_below (n₀ := w.heap.size) (G := G) (HW.out.trans (hbp.mono hsz)) (Nat.le_refl _))
  clear hm1 hk1 hm2 hk2 M K hbp h0 HW
  gi_loopw [19] (fun i wr => ∃ j : Nat, j ≤ l.length - at_ ∧ i = .int .i64 j ∧ J ((KeysFrom l at_).take j) wr ∧ KG w.heap.size G w wr ∧ W.heap.size ≤ wr.heap.size)
    (fun i _ => l.length - at_ - (intOf i).toNat)
  case atStart => exact ⟨0, Nat.zero_le _, rfl, h1, CB.out, hs1⟩
  case round =>
    obtain ⟨j, hj, rfl, hJs, hkb, hsz2⟩ := hrel
    by_cases hlt : j < l.length - at_
    · have CR := Lib.hid (Kd.C_drop (HC.out wr hkb.agree).1 hat hl)
      rw [← hA2.out] at CR
      obtain ⟨ad, hA3, hc1, hc2⟩ := at_T52 CR.out (j : Int) (by omega) (by rw [List.length_drop]; omega)
      rw [hA3]
      simp only [Int.toNat_natCast] at hc1 hc2
      have hba : Below wr.heap.size wr (wr.alloc (.cells #[.int .u64 (rd_T52 (l.drop at_) j).f0, .int .u64 (rd_T52 (l.drop at_) j).f1] 52)) := below_alloc (Below.refl _ _) _
      have hJa := abides_below hJ hJs hba
      obtain ⟨fn, tmps, assign, body, hy, hR⟩ := hY _ (rd_T52 (l.drop at_) j).f0 _ hJa (by rw [List.length_take]; omega)
      gi_wp2
      refine hR.mono ?_
      have hkt := keysFrom_take l at_ j hlt
      have hka : KG w.heap.size G wr (wr.alloc (.cells #[.int .u64 (rd_T52 (l.drop at_) j).f0, .int .u64 (rd_T52 (l.drop at_) j).f1] 52)) := KG.of_below hba (by omega)
      rintro e W3 (⟨rfl, hJ3, hk3⟩ | ⟨rfl, hJx3⟩)
      · gi_wp2
        go_roundw
        case rel => exact ⟨j + 1, by omega, by simp, by rw [hkt]; exact hJ3, (hkb.trans hka).trans hk3, Nat.le_trans hsz2 (Nat.le_trans hba.size hk3.size)⟩
        case measure => simp [intOf]; omega
      · gi_wp2
        refine bodyPost_ret (results_none rfl _ _ _) rfl ?_
        exact ⟨⟨_, rfl⟩, .inr ⟨_, by rw [← hkt]; exact List.take_prefix _ _, hJx3⟩⟩
    · obtain rfl : j = l.length - at_ := by omega
      gi_wp2
      go_end0
      exact ⟨⟨_, rfl⟩, .inl ⟨_, rfl, by rwa [List.take_of_length_le (by simp [KeysFrom])] at hJs⟩⟩
end Go.Eng
