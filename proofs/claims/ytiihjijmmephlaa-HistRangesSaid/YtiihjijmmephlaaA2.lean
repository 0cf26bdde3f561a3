/-
Own text, put together by an own program (shake.py) out of this claim's texts: what its theorem needs of them.
-/
import Derived.Test.YtiihjijmmephlaaA1
import Derived.Test.YtiihjijmmephlaaProg
import Derived.Below
import Derived.Deep.Draws
import Derived.Deep.AppendLies
import Derived.Maps.AppendAt
import Derived.OwnWalk
import Derived.Laws.BytesArg
import Derived.Laws.MakeOwn
import Derived.Laws.OwnMore
import Derived.Deep.OwnRows
import Derived.Tactics
import Derived.Lib.ConvBytes
import Derived.Laws.Slices
import Derived.WalkKit
import Derived.KernelRfl
import Derived.RowKit3
import Derived.Deep.LoopGhost
import Derived.Deep.QuietTactic
import Derived.BigQuiet
import Derived.WideLaws
import Derived.Deep.DeepCutAuto
import Derived.Deep.CutBlock
import Derived.Deep.RegionHeld3
import Derived.Laws.Rows
import Derived.Lib.AppendStr
import Derived.ArgAppend
import Derived.Laws.IdiomCopy
import Derived.OrdersHeld
import Derived.Laws.BitsLemmas
import Derived.RowKit
import Derived.Lib.Hide
import Derived.WalkSpells
import Derived.Deep.RegionLaw
import Derived.Deep.RegionLawGrows
namespace Go.Proofs.Ytiihjijmmephlaa.GHist
open Go.RowKit Go.Proofs.YtiihjijmmephlaaW.PrintWords Go.Proofs.YtiihjijmmephlaaW.PrintLast Go.Proofs.YtiihjijmmephlaaW.PrintMore
attribute [local go_sem] max2_int min2_int max_two min_two max_three min_three max_four min_four   -- for this text's walks alone
set_option linter.unusedVariables false
set_option linter.unusedSimpArgs false
def errW : Option Int → Value
  | none => .nilIface
  | some c => .iface 0 (.int .i64 c)
theorem errW_none : errW none = .nilIface := rfl
theorem errW_some (c : Int) : errW (some c) = .iface 0 (.int .i64 c) := rfl
theorem info56 : (Try.prog.info? 56).map (fun i => (i.zero, i.size, i.bytes)) = some (some (.agg #[(.int .u64 0), (.int .u64 0)]), 2, 16) := by kernel_rfl
theorem info61 : (Try.prog.info? 61).map (fun i => (i.zero, i.size, i.bytes)) = some (some (.agg #[(.int .u64 0), (.int .u64 0)]), 2, 16) := by kernel_rfl
structure S56 where
  f0 : Int
  f1 : Int
def z56 : S56 := ⟨(0 : Int), (0 : Int)⟩
def k56 : Kd S56 := Kd.iso (Kd.pair (Kd.int .u64) (Kd.int .u64)) (fun x : S56 => (x.f0, x.f1))
theorem k56_open {w : World} {x : S56} {cs : List Value} (h : k56.K w x cs) : cs = [.int .u64 x.f0, .int .u64 x.f1] := by
  obtain ⟨_, _, rfl, rfl, rfl⟩ := h
  exact rfl
theorem k56_openM {w : World} {base : Nat} {ok : Nat → Prop} {x : S56} {cs : List Value} (h : k56.M w base ok x cs) : cs = [.int .u64 x.f0, .int .u64 x.f1] := by
  obtain ⟨_, _, rfl, rfl, rfl⟩ := h
  exact rfl
theorem k56_mkM (w : World) (base : Nat) (ok : Nat → Prop) (x : S56)  : k56.M w base ok x [.int .u64 x.f0, .int .u64 x.f1] := ⟨[.int .u64 x.f0], [.int .u64 x.f1], rfl, rfl, rfl⟩
def rd_T56 (xs : List S56) (i : Int) : S56 := xs.getD i.toNat z56
theorem at_T56 {w : World} {A : Option Addr} {n : Nat} {xs : List S56} (h : Kd.C k56 w A n xs) (i : Int) (h0 : 0 ≤ i) (h1 : i < n) : ∃ ad , A = some ad ∧ w.cell? (ad.add (i.toNat * 2)) = some (.int .u64 (rd_T56 xs i).f0) ∧ w.cell? ⟨(ad.add (i.toNat * 2)).block, (ad.add (i.toNat * 2)).off + 1, none⟩ = some (.int .u64 (rd_T56 xs i).f1) := by
  obtain ⟨ad, c, e, _, hK, hc0⟩ := Kd.C_get h z56 i h0 h1
  have hc : ∀ j u, c[j]? = some u → w.cell? (ad.add (i.toNat * 2 + j)) = some u := hc0
  obtain rfl := k56_open hK
  exact ⟨ad, e, hc 0 _ rfl, by rw [← add_field _ _ 1 (by omega)]; exact hc 1 _ rfl⟩
structure S35 where
  f0 : (List S56)
def z35 : S35 := ⟨([] : List S56)⟩
def k35 : Kd S35 := Kd.iso (Kd.slice 56 k56) (fun x : S35 => x.f0)
theorem k35_open {w : World} {x : S35} {cs : List Value} (h : k35.K w x cs) : ∃ A0 c0, cs = [.slice A0 x.f0.length c0] ∧ x.f0.length ≤ c0 ∧ k56.C w A0 x.f0.length x.f0 := by
  obtain ⟨A0, c0, rfl, l0, g0⟩ := h
  exact ⟨A0, c0, rfl, l0, g0⟩
theorem k35_mk (w : World) (x : S35) {A0 : Option Addr} {c0 : Nat} (l0 : x.f0.length ≤ c0) (g0 : k56.C w A0 x.f0.length x.f0) : k35.K w x [.slice A0 x.f0.length c0] := ⟨A0, c0, rfl, l0, g0⟩
def rd_T35 (xs : List S35) (i : Int) : S35 := xs.getD i.toNat z35
structure S61 where
  f0 : Int
  f1 : Int
def z61 : S61 := ⟨(0 : Int), (0 : Int)⟩
def k61 : Kd S61 := Kd.iso (Kd.pair (Kd.int .u64) (Kd.int .u64)) (fun x : S61 => (x.f0, x.f1))
theorem k61_open {w : World} {x : S61} {cs : List Value} (h : k61.K w x cs) : cs = [.int .u64 x.f0, .int .u64 x.f1] := by
  obtain ⟨_, _, rfl, rfl, rfl⟩ := h
  exact rfl
theorem k61_mkM (w : World) (base : Nat) (ok : Nat → Prop) (x : S61)  : k61.M w base ok x [.int .u64 x.f0, .int .u64 x.f1] := ⟨[.int .u64 x.f0], [.int .u64 x.f1], rfl, rfl, rfl⟩
def rd_T61 (xs : List S61) (i : Int) : S61 := xs.getD i.toNat z61
theorem at_T61 {w : World} {A : Option Addr} {n : Nat} {xs : List S61} (h : Kd.C k61 w A n xs) (i : Int) (h0 : 0 ≤ i) (h1 : i < n) : ∃ ad , A = some ad ∧ w.cell? (ad.add (i.toNat * 2)) = some (.int .u64 (rd_T61 xs i).f0) ∧ w.cell? ⟨(ad.add (i.toNat * 2)).block, (ad.add (i.toNat * 2)).off + 1, none⟩ = some (.int .u64 (rd_T61 xs i).f1) := by
  obtain ⟨ad, c, e, _, hK, hc0⟩ := Kd.C_get h z61 i h0 h1
  have hc : ∀ j u, c[j]? = some u → w.cell? (ad.add (i.toNat * 2 + j)) = some u := hc0
  obtain rfl := k61_open hK
  exact ⟨ad, e, hc 0 _ rfl, by rw [← add_field _ _ 1 (by omega)]; exact hc 1 _ rfl⟩
structure S43 where
  f0 : Int
  f1 : Int
  f2 : Int
  f3 : Int
  f4 : Int
def z43 : S43 := ⟨(0 : Int), (0 : Int), (0 : Int), (0 : Int), (0 : Int)⟩
def k43 : Kd S43 := Kd.iso (Kd.pair (Kd.int .i64) (Kd.pair (Kd.int .u64) (Kd.pair (Kd.int .u64) (Kd.pair (Kd.int .i64) (Kd.int .i64))))) (fun x : S43 => (x.f0, x.f1, x.f2, x.f3, x.f4))
theorem k43_open {w : World} {x : S43} {cs : List Value} (h : k43.K w x cs) : cs = [.int .i64 x.f0, .int .u64 x.f1, .int .u64 x.f2, .int .i64 x.f3, .int .i64 x.f4] := by
  obtain ⟨_, _, rfl, rfl, ⟨_, _, rfl, rfl, ⟨_, _, rfl, rfl, ⟨_, _, rfl, rfl, rfl⟩⟩⟩⟩ := h
  exact rfl
theorem k43_mk (w : World) (x : S43)  : k43.K w x [.int .i64 x.f0, .int .u64 x.f1, .int .u64 x.f2, .int .i64 x.f3, .int .i64 x.f4] := ⟨[.int .i64 x.f0], [.int .u64 x.f1, .int .u64 x.f2, .int .i64 x.f3, .int .i64 x.f4], rfl, rfl, ⟨[.int .u64 x.f1], [.int .u64 x.f2, .int .i64 x.f3, .int .i64 x.f4], rfl, rfl, ⟨[.int .u64 x.f2], [.int .i64 x.f3, .int .i64 x.f4], rfl, rfl, ⟨[.int .i64 x.f3], [.int .i64 x.f4], rfl, rfl, rfl⟩⟩⟩⟩
structure S46 where
  f0 : Bool
  f1 : Bool
  f2 : Int
  f3 : (List Int)
def z46 : S46 := ⟨false, false, (0 : Int), ([] : List Int)⟩
def k46 : Kd S46 := Kd.iso (Kd.pair Kd.bool (Kd.pair Kd.bool (Kd.pair (Kd.int .u64) (Kd.slice 41 (Kd.int .u64))))) (fun x : S46 => (x.f0, x.f1, x.f2, x.f3))
theorem k46_open {w : World} {x : S46} {cs : List Value} (h : k46.K w x cs) : ∃ A3 c3, cs = [.bool x.f0, .bool x.f1, .int .u64 x.f2, .slice A3 x.f3.length c3] ∧ x.f3.length ≤ c3 ∧ (Kd.int .u64).C w A3 x.f3.length x.f3 := by
  obtain ⟨_, _, rfl, rfl, ⟨_, _, rfl, rfl, ⟨_, _, rfl, rfl, ⟨A3, c3, rfl, l3, g3⟩⟩⟩⟩ := h
  exact ⟨A3, c3, rfl, l3, g3⟩
theorem k46_mk (w : World) (x : S46) {A3 : Option Addr} {c3 : Nat} (l3 : x.f3.length ≤ c3) (g3 : (Kd.int .u64).C w A3 x.f3.length x.f3) : k46.K w x [.bool x.f0, .bool x.f1, .int .u64 x.f2, .slice A3 x.f3.length c3] := ⟨[.bool x.f0], [.bool x.f1, .int .u64 x.f2, .slice A3 x.f3.length c3], rfl, rfl, ⟨[.bool x.f1], [.int .u64 x.f2, .slice A3 x.f3.length c3], rfl, rfl, ⟨[.int .u64 x.f2], [.slice A3 x.f3.length c3], rfl, rfl, ⟨A3, c3, rfl, l3, g3⟩⟩⟩⟩
structure S48 where
  f0 : Int
  f1 : S43
  f2 : Int
  f3 : Int
  f4 : Int
  f5 : Bool
  f6 : S46
def z48 : S48 := ⟨(0 : Int), z43, (0 : Int), (0 : Int), (0 : Int), false, z46⟩
def k48 : Kd S48 := Kd.iso (Kd.pair (Kd.int .i64) (Kd.pair k43 (Kd.pair (Kd.int .i64) (Kd.pair (Kd.int .i64) (Kd.pair (Kd.int .i64) (Kd.pair Kd.bool k46)))))) (fun x : S48 => (x.f0, x.f1, x.f2, x.f3, x.f4, x.f5, x.f6))
theorem k48_open {w : World} {x : S48} {cs : List Value} (h : k48.K w x cs) : ∃ A13 c13, cs = [.int .i64 x.f0, .int .i64 x.f1.f0, .int .u64 x.f1.f1, .int .u64 x.f1.f2, .int .i64 x.f1.f3, .int .i64 x.f1.f4, .int .i64 x.f2, .int .i64 x.f3, .int .i64 x.f4, .bool x.f5, .bool x.f6.f0, .bool x.f6.f1, .int .u64 x.f6.f2, .slice A13 x.f6.f3.length c13] ∧ x.f6.f3.length ≤ c13 ∧ (Kd.int .u64).C w A13 x.f6.f3.length x.f6.f3 := by
  obtain ⟨_, _, rfl, rfl, ⟨_, _, rfl, s1, ⟨_, _, rfl, rfl, ⟨_, _, rfl, rfl, ⟨_, _, rfl, rfl, ⟨_, _, rfl, rfl, s10⟩⟩⟩⟩⟩⟩ := h
  obtain rfl := k43_open s1
  obtain ⟨A13, c13, rfl, l13, g13⟩ := k46_open s10
  exact ⟨A13, c13, rfl, l13, g13⟩
theorem k48_mk (w : World) (x : S48) {A13 : Option Addr} {c13 : Nat} (l13 : x.f6.f3.length ≤ c13) (g13 : (Kd.int .u64).C w A13 x.f6.f3.length x.f6.f3) : k48.K w x [.int .i64 x.f0, .int .i64 x.f1.f0, .int .u64 x.f1.f1, .int .u64 x.f1.f2, .int .i64 x.f1.f3, .int .i64 x.f1.f4, .int .i64 x.f2, .int .i64 x.f3, .int .i64 x.f4, .bool x.f5, .bool x.f6.f0, .bool x.f6.f1, .int .u64 x.f6.f2, .slice A13 x.f6.f3.length c13] := ⟨[.int .i64 x.f0], [.int .i64 x.f1.f0, .int .u64 x.f1.f1, .int .u64 x.f1.f2, .int .i64 x.f1.f3, .int .i64 x.f1.f4, .int .i64 x.f2, .int .i64 x.f3, .int .i64 x.f4, .bool x.f5, .bool x.f6.f0, .bool x.f6.f1, .int .u64 x.f6.f2, .slice A13 x.f6.f3.length c13], rfl, rfl, ⟨[.int .i64 x.f1.f0, .int .u64 x.f1.f1, .int .u64 x.f1.f2, .int .i64 x.f1.f3, .int .i64 x.f1.f4], [.int .i64 x.f2, .int .i64 x.f3, .int .i64 x.f4, .bool x.f5, .bool x.f6.f0, .bool x.f6.f1, .int .u64 x.f6.f2, .slice A13 x.f6.f3.length c13], rfl, (k43_mk w x.f1 ), ⟨[.int .i64 x.f2], [.int .i64 x.f3, .int .i64 x.f4, .bool x.f5, .bool x.f6.f0, .bool x.f6.f1, .int .u64 x.f6.f2, .slice A13 x.f6.f3.length c13], rfl, rfl, ⟨[.int .i64 x.f3], [.int .i64 x.f4, .bool x.f5, .bool x.f6.f0, .bool x.f6.f1, .int .u64 x.f6.f2, .slice A13 x.f6.f3.length c13], rfl, rfl, ⟨[.int .i64 x.f4], [.bool x.f5, .bool x.f6.f0, .bool x.f6.f1, .int .u64 x.f6.f2, .slice A13 x.f6.f3.length c13], rfl, rfl, ⟨[.bool x.f5], [.bool x.f6.f0, .bool x.f6.f1, .int .u64 x.f6.f2, .slice A13 x.f6.f3.length c13], rfl, rfl, (k46_mk w x.f6 l13 g13)⟩⟩⟩⟩⟩⟩
def rd_T48 (xs : List S48) (i : Int) : S48 := xs.getD i.toNat z48
theorem at_T48 {w : World} {A : Option Addr} {n : Nat} {xs : List S48} (h : Kd.C k48 w A n xs) (i : Int) (h0 : 0 ≤ i) (h1 : i < n) : ∃ ad A13 c13, A = some ad ∧ w.cell? (ad.add (i.toNat * 14)) = some (.int .i64 (rd_T48 xs i).f0) ∧ w.cell? ⟨(ad.add (i.toNat * 14)).block, (ad.add (i.toNat * 14)).off + 1, none⟩ = some (.int .i64 (rd_T48 xs i).f1.f0) ∧ w.cell? ⟨(ad.add (i.toNat * 14)).block, (ad.add (i.toNat * 14)).off + 2, none⟩ = some (.int .u64 (rd_T48 xs i).f1.f1) ∧ w.cell? ⟨(ad.add (i.toNat * 14)).block, (ad.add (i.toNat * 14)).off + 3, none⟩ = some (.int .u64 (rd_T48 xs i).f1.f2) ∧ w.cell? ⟨(ad.add (i.toNat * 14)).block, (ad.add (i.toNat * 14)).off + 4, none⟩ = some (.int .i64 (rd_T48 xs i).f1.f3) ∧ w.cell? ⟨(ad.add (i.toNat * 14)).block, (ad.add (i.toNat * 14)).off + 5, none⟩ = some (.int .i64 (rd_T48 xs i).f1.f4) ∧ w.cell? ⟨(ad.add (i.toNat * 14)).block, (ad.add (i.toNat * 14)).off + 6, none⟩ = some (.int .i64 (rd_T48 xs i).f2) ∧ w.cell? ⟨(ad.add (i.toNat * 14)).block, (ad.add (i.toNat * 14)).off + 7, none⟩ = some (.int .i64 (rd_T48 xs i).f3) ∧ w.cell? ⟨(ad.add (i.toNat * 14)).block, (ad.add (i.toNat * 14)).off + 8, none⟩ = some (.int .i64 (rd_T48 xs i).f4) ∧ w.cell? ⟨(ad.add (i.toNat * 14)).block, (ad.add (i.toNat * 14)).off + 9, none⟩ = some (.bool (rd_T48 xs i).f5) ∧ w.cell? ⟨(ad.add (i.toNat * 14)).block, (ad.add (i.toNat * 14)).off + 10, none⟩ = some (.bool (rd_T48 xs i).f6.f0) ∧ w.cell? ⟨(ad.add (i.toNat * 14)).block, (ad.add (i.toNat * 14)).off + 11, none⟩ = some (.bool (rd_T48 xs i).f6.f1) ∧ w.cell? ⟨(ad.add (i.toNat * 14)).block, (ad.add (i.toNat * 14)).off + 12, none⟩ = some (.int .u64 (rd_T48 xs i).f6.f2) ∧ w.cell? ⟨(ad.add (i.toNat * 14)).block, (ad.add (i.toNat * 14)).off + 13, none⟩ = some (.slice A13 (rd_T48 xs i).f6.f3.length c13) ∧ (rd_T48 xs i).f6.f3.length ≤ c13 ∧ (Kd.int .u64).C w A13 (rd_T48 xs i).f6.f3.length (rd_T48 xs i).f6.f3 := by
  obtain ⟨ad, c, e, _, hK, hc0⟩ := Kd.C_get h z48 i h0 h1
  have hc : ∀ j u, c[j]? = some u → w.cell? (ad.add (i.toNat * 14 + j)) = some u := hc0
  obtain ⟨A13, c13, rfl, l13, g13⟩ := k48_open hK
  exact ⟨ad, A13, c13, e, hc 0 _ rfl, by rw [← add_field _ _ 1 (by omega)]; exact hc 1 _ rfl, by rw [← add_field _ _ 2 (by omega)]; exact hc 2 _ rfl, by rw [← add_field _ _ 3 (by omega)]; exact hc 3 _ rfl, by rw [← add_field _ _ 4 (by omega)]; exact hc 4 _ rfl, by rw [← add_field _ _ 5 (by omega)]; exact hc 5 _ rfl, by rw [← add_field _ _ 6 (by omega)]; exact hc 6 _ rfl, by rw [← add_field _ _ 7 (by omega)]; exact hc 7 _ rfl, by rw [← add_field _ _ 8 (by omega)]; exact hc 8 _ rfl, by rw [← add_field _ _ 9 (by omega)]; exact hc 9 _ rfl, by rw [← add_field _ _ 10 (by omega)]; exact hc 10 _ rfl, by rw [← add_field _ _ 11 (by omega)]; exact hc 11 _ rfl, by rw [← add_field _ _ 12 (by omega)]; exact hc 12 _ rfl, by rw [← add_field _ _ 13 (by omega)]; exact hc 13 _ rfl, l13, g13⟩
end Go.Proofs.Ytiihjijmmephlaa.GHist
namespace Go.Proofs.Ytiihjijmmephlaa.GHist
open Go.RowKit Go.Proofs.YtiihjijmmephlaaW.PrintWords Go.Proofs.YtiihjijmmephlaaW.PrintLast Go.Proofs.YtiihjijmmephlaaW.PrintMore
attribute [local go_sem] max2_int min2_int max_two min_two max_three min_three max_four min_four   -- for this text's walks alone
set_option linter.unusedVariables false
set_option linter.unusedSimpArgs false
theorem eqA61 (d : Nat) (w : World) (x0 y0 : Int) (x1 y1 : Int) :
    (Op.equalIn (d + 2) 61 (.agg #[.int .u64 x0, .int .u64 x1]) (.agg #[.int .u64 y0, .int .u64 y1])).run Try.prog w = .ok (x0 == y0 && (x1 == y1)) w := by
  refine eqA_of Try.underlying61 (by kernel_rfl) ?_
  refine eqf_cons (by rfl) (by go_simp; rfl) (by go_simp; rfl) (by go_simp) ?_
  exact eqf_last (by rfl) (by go_simp; rfl) (by go_simp; rfl) (by go_simp)
end Go.Proofs.Ytiihjijmmephlaa.GHist
namespace Go.Proofs.Ytiihjijmmephlaa.GHist
open Go.RowKit Go.Proofs.YtiihjijmmephlaaW.PrintWords Go.Proofs.YtiihjijmmephlaaW.PrintLast Go.Proofs.YtiihjijmmephlaaW.PrintMore
attribute [local go_sem] max2_int min2_int max_two min_two max_three min_three max_four min_four   -- for this text's walks alone
set_option linter.unusedVariables false
set_option linter.unusedSimpArgs false
def cmp_isNaN_uint64.f (a0 : Int) : Option (Bool) := some (a0 != a0)
set_option maxHeartbeats 8000000 in
set_option maxRecDepth 100000 in
theorem cmp_isNaN_uint64.calls (a0 : Int) (r : Bool) (w : World) (h : cmp_isNaN_uint64.f a0 = some r) :
    Calls Try.prog 73 #[.int .u64 a0] w fun e w' => e = .returned (.bool r) ∧ Drawn0 w w' := by
  have H : (some (a0 != a0)) = some r := h
  clear h
  obtain rfl := Option.some.inj H
  go_enter Try.func73, Try.ntmps73
  go_wp2
  go_ret
  exact ⟨by first | rfl | (simp; done) | (simp [*]; done), by repeat (first | exact Drawn0.refl _ | apply Drawn0.step)⟩
def cmp_Compare_uint64.f (a0 : Int) (a1 : Int) : Option (Int) := (cmp_isNaN_uint64.f a0).bind fun t101 => ((cmp_isNaN_uint64.f a1).bind fun t102 => (if t101 = true then (if t102 = true then (some 0) else (some (-1))) else (if t102 = true then (some 1) else (if a0 < a1 then (some (-1)) else (if a0 > a1 then (some 1) else (some 0))))))
set_option maxHeartbeats 8000000 in
set_option maxRecDepth 100000 in
theorem cmp_Compare_uint64.calls (a0 : Int) (a1 : Int) (r : Int) (w : World) (h : cmp_Compare_uint64.f a0 a1 = some r) :
    Calls Try.prog 71 #[.int .u64 a0, .int .u64 a1] w fun e w' => e = .returned (.int .i64 r) ∧ Drawn0 w w' := by
  have H : ((cmp_isNaN_uint64.f a0).bind fun t101 => ((cmp_isNaN_uint64.f a1).bind fun t102 => (if t101 = true then (if t102 = true then (some 0) else (some (-1))) else (if t102 = true then (some 1) else (if a0 < a1 then (some (-1)) else (if a0 > a1 then (some 1) else (some 0))))))) = some r := h
  clear h
  replace H := Option.bind_eq_some_iff.mp H
  obtain ⟨t101, A30, H⟩ := H
  replace H : ((cmp_isNaN_uint64.f a1).bind fun t102 => (if t101 = true then (if t102 = true then (some 0) else (some (-1))) else (if t102 = true then (some 1) else (if a0 < a1 then (some (-1)) else (if a0 > a1 then (some 1) else (some 0)))))) = some r := H
  have A3 := Aside0.mk A30
  clear A30
  replace H := Option.bind_eq_some_iff.mp H
  obtain ⟨t102, A40, H⟩ := H
  replace H : (if t101 = true then (if t102 = true then (some 0) else (some (-1))) else (if t102 = true then (some 1) else (if a0 < a1 then (some (-1)) else (if a0 > a1 then (some 1) else (some 0))))) = some r := H
  have A4 := Aside0.mk A40
  clear A40
  by_cases c5 : t101 = true
  · subst c5
    have H1 : (if t102 = true then (some 0) else (some (-1))) = some r := by rw [if_pos rfl] at H; exact H
    clear H
    have H := H1
    clear H1
    by_cases c6 : t102 = true
    · subst c6
      have H1 : (some 0) = some r := by rw [if_pos rfl] at H; exact H
      clear H
      have H := H1
      clear H1
      obtain rfl := Option.some.inj H
      go_enter Try.func71, Try.ntmps71
      go_wp2_with (first | ((with_reducible refine gate_callee (f := 73) rfl ?_); refine goesL_ (some 8) rfl rfl Try.func73 (by kernel_rfl) rfl #[.int .u64 a0] rfl (by (try simp only [List.map_toArray, List.map_cons, List.map_nil]); first | done | rfl | (simp only [List.length_drop, List.length_take]; rfl)) ?_; (with_reducible refine (cmp_isNaN_uint64.calls a0 true _ A3.out).mono ?_); rintro e w' ⟨rfl, ⟨nd, rfl⟩⟩; refine ⟨_, rfl, ?_⟩) | ((with_reducible refine gate_callee (f := 73) rfl ?_); refine goesL_ (some 10) rfl rfl Try.func73 (by kernel_rfl) rfl #[.int .u64 a1] rfl (by (try simp only [List.map_toArray, List.map_cons, List.map_nil]); first | done | rfl | (simp only [List.length_drop, List.length_take]; rfl)) ?_; (with_reducible refine (cmp_isNaN_uint64.calls a1 true _ A4.out).mono ?_); rintro e w' ⟨rfl, ⟨nd, rfl⟩⟩; refine ⟨_, rfl, ?_⟩))
      go_ret
      exact ⟨by first | rfl | (simp; done) | (simp [*]; done), by repeat (first | exact Drawn0.refl _ | apply Drawn0.step)⟩
    · replace c6 := Bool.eq_false_iff.mpr c6
      subst c6
      have H1 : (some (-1)) = some r := by rw [if_neg (show ¬ (false = true) by decide)] at H; exact H
      clear H
      have H := H1
      clear H1
      obtain rfl := Option.some.inj H
      go_enter Try.func71, Try.ntmps71
      go_wp2_with (first | ((with_reducible refine gate_callee (f := 73) rfl ?_); refine goesL_ (some 8) rfl rfl Try.func73 (by kernel_rfl) rfl #[.int .u64 a0] rfl (by (try simp only [List.map_toArray, List.map_cons, List.map_nil]); first | done | rfl | (simp only [List.length_drop, List.length_take]; rfl)) ?_; (with_reducible refine (cmp_isNaN_uint64.calls a0 true _ A3.out).mono ?_); rintro e w' ⟨rfl, ⟨nd, rfl⟩⟩; refine ⟨_, rfl, ?_⟩) | ((with_reducible refine gate_callee (f := 73) rfl ?_); refine goesL_ (some 10) rfl rfl Try.func73 (by kernel_rfl) rfl #[.int .u64 a1] rfl (by (try simp only [List.map_toArray, List.map_cons, List.map_nil]); first | done | rfl | (simp only [List.length_drop, List.length_take]; rfl)) ?_; (with_reducible refine (cmp_isNaN_uint64.calls a1 false _ A4.out).mono ?_); rintro e w' ⟨rfl, ⟨nd, rfl⟩⟩; refine ⟨_, rfl, ?_⟩))
      go_ret
      exact ⟨by first | rfl | (simp; done) | (simp [*]; done), by repeat (first | exact Drawn0.refl _ | apply Drawn0.step)⟩
  · replace c5 := Bool.eq_false_iff.mpr c5
    subst c5
    have H1 : (if t102 = true then (some 1) else (if a0 < a1 then (some (-1)) else (if a0 > a1 then (some 1) else (some 0)))) = some r := by rw [if_neg (show ¬ (false = true) by decide)] at H; exact H
    clear H
    have H := H1
    clear H1
    by_cases c7 : t102 = true
    · subst c7
      have H1 : (some 1) = some r := by rw [if_pos rfl] at H; exact H
      clear H
      have H := H1
      clear H1
      obtain rfl := Option.some.inj H
      go_enter Try.func71, Try.ntmps71
      go_wp2_with (first | ((with_reducible refine gate_callee (f := 73) rfl ?_); refine goesL_ (some 8) rfl rfl Try.func73 (by kernel_rfl) rfl #[.int .u64 a0] rfl (by (try simp only [List.map_toArray, List.map_cons, List.map_nil]); first | done | rfl | (simp only [List.length_drop, List.length_take]; rfl)) ?_; (with_reducible refine (cmp_isNaN_uint64.calls a0 false _ A3.out).mono ?_); rintro e w' ⟨rfl, ⟨nd, rfl⟩⟩; refine ⟨_, rfl, ?_⟩) | ((with_reducible refine gate_callee (f := 73) rfl ?_); refine goesL_ (some 10) rfl rfl Try.func73 (by kernel_rfl) rfl #[.int .u64 a1] rfl (by (try simp only [List.map_toArray, List.map_cons, List.map_nil]); first | done | rfl | (simp only [List.length_drop, List.length_take]; rfl)) ?_; (with_reducible refine (cmp_isNaN_uint64.calls a1 true _ A4.out).mono ?_); rintro e w' ⟨rfl, ⟨nd, rfl⟩⟩; refine ⟨_, rfl, ?_⟩))
      go_ret
      exact ⟨by first | rfl | (simp; done) | (simp [*]; done), by repeat (first | exact Drawn0.refl _ | apply Drawn0.step)⟩
    · replace c7 := Bool.eq_false_iff.mpr c7
      subst c7
      have H1 : (if a0 < a1 then (some (-1)) else (if a0 > a1 then (some 1) else (some 0))) = some r := by rw [if_neg (show ¬ (false = true) by decide)] at H; exact H
      clear H
      have H := H1
      clear H1
      by_cases c8 : a0 < a1
      · rw [if_pos c8] at H
        have c8b0 : decide (a0 < a1) = true := decide_eq_true c8
        clear c8
        obtain rfl := Option.some.inj H
        go_enter Try.func71, Try.ntmps71
        go_wp2_with (first | ((with_reducible refine gate_callee (f := 73) rfl ?_); refine goesL_ (some 8) rfl rfl Try.func73 (by kernel_rfl) rfl #[.int .u64 a0] rfl (by (try simp only [List.map_toArray, List.map_cons, List.map_nil]); first | done | rfl | (simp only [List.length_drop, List.length_take]; rfl)) ?_; (with_reducible refine (cmp_isNaN_uint64.calls a0 false _ A3.out).mono ?_); rintro e w' ⟨rfl, ⟨nd, rfl⟩⟩; refine ⟨_, rfl, ?_⟩) | ((with_reducible refine gate_callee (f := 73) rfl ?_); refine goesL_ (some 10) rfl rfl Try.func73 (by kernel_rfl) rfl #[.int .u64 a1] rfl (by (try simp only [List.map_toArray, List.map_cons, List.map_nil]); first | done | rfl | (simp only [List.length_drop, List.length_take]; rfl)) ?_; (with_reducible refine (cmp_isNaN_uint64.calls a1 false _ A4.out).mono ?_); rintro e w' ⟨rfl, ⟨nd, rfl⟩⟩; refine ⟨_, rfl, ?_⟩))
        go_ret
        exact ⟨by first | rfl | (simp; done) | (simp [*]; done), by repeat (first | exact Drawn0.refl _ | apply Drawn0.step)⟩
      · rw [if_neg c8] at H
        have c8b0 : decide (a0 < a1) = false := decide_eq_false c8
        clear c8
        by_cases c9 : a0 > a1
        · rw [if_pos c9] at H
          have c9b0 : decide (a1 < a0) = true := decide_eq_true c9
          clear c9
          obtain rfl := Option.some.inj H
          go_enter Try.func71, Try.ntmps71
          go_wp2_with (first | ((with_reducible refine gate_callee (f := 73) rfl ?_); refine goesL_ (some 8) rfl rfl Try.func73 (by kernel_rfl) rfl #[.int .u64 a0] rfl (by (try simp only [List.map_toArray, List.map_cons, List.map_nil]); first | done | rfl | (simp only [List.length_drop, List.length_take]; rfl)) ?_; (with_reducible refine (cmp_isNaN_uint64.calls a0 false _ A3.out).mono ?_); rintro e w' ⟨rfl, ⟨nd, rfl⟩⟩; refine ⟨_, rfl, ?_⟩) | ((with_reducible refine gate_callee (f := 73) rfl ?_); refine goesL_ (some 10) rfl rfl Try.func73 (by kernel_rfl) rfl #[.int .u64 a1] rfl (by (try simp only [List.map_toArray, List.map_cons, List.map_nil]); first | done | rfl | (simp only [List.length_drop, List.length_take]; rfl)) ?_; (with_reducible refine (cmp_isNaN_uint64.calls a1 false _ A4.out).mono ?_); rintro e w' ⟨rfl, ⟨nd, rfl⟩⟩; refine ⟨_, rfl, ?_⟩))
          go_ret
          exact ⟨by first | rfl | (simp; done) | (simp [*]; done), by repeat (first | exact Drawn0.refl _ | apply Drawn0.step)⟩
        · rw [if_neg c9] at H
          have c9b0 : decide (a1 < a0) = false := decide_eq_false c9
          clear c9
          obtain rfl := Option.some.inj H
          go_enter Try.func71, Try.ntmps71
          go_wp2_with (first | ((with_reducible refine gate_callee (f := 73) rfl ?_); refine goesL_ (some 8) rfl rfl Try.func73 (by kernel_rfl) rfl #[.int .u64 a0] rfl (by (try simp only [List.map_toArray, List.map_cons, List.map_nil]); first | done | rfl | (simp only [List.length_drop, List.length_take]; rfl)) ?_; (with_reducible refine (cmp_isNaN_uint64.calls a0 false _ A3.out).mono ?_); rintro e w' ⟨rfl, ⟨nd, rfl⟩⟩; refine ⟨_, rfl, ?_⟩) | ((with_reducible refine gate_callee (f := 73) rfl ?_); refine goesL_ (some 10) rfl rfl Try.func73 (by kernel_rfl) rfl #[.int .u64 a1] rfl (by (try simp only [List.map_toArray, List.map_cons, List.map_nil]); first | done | rfl | (simp only [List.length_drop, List.length_take]; rfl)) ?_; (with_reducible refine (cmp_isNaN_uint64.calls a1 false _ A4.out).mono ?_); rintro e w' ⟨rfl, ⟨nd, rfl⟩⟩; refine ⟨_, rfl, ?_⟩))
          go_ret
          exact ⟨by first | rfl | (simp; done) | (simp [*]; done), by repeat (first | exact Drawn0.refl _ | apply Drawn0.step)⟩
def seq_Pair_to.f (a0_0 : Int) (a0_1 : Int) (a1 : Int) : Option (Int) := (cmp_Compare_uint64.f a0_0 a1).bind fun t104 => (some t104)
set_option maxHeartbeats 8000000 in
set_option maxRecDepth 100000 in
theorem seq_Pair_to.calls (a0_0 : Int) (a0_1 : Int) (a1 : Int) (r : Int) (w : World) (h : seq_Pair_to.f a0_0 a0_1 a1 = some r) :
    Calls Try.prog 69 #[.agg #[.int .u64 a0_0, .int .u64 a0_1], .int .u64 a1] w fun e w' => e = .returned (.int .i64 r) ∧ Below w.heap.size w w' := by
  have hu56 := Try.underlying56
  have HB := Aside0.mk (Below.refl w.heap.size w)
  have H : ((cmp_Compare_uint64.f a0_0 a1).bind fun t104 => (some t104)) = some r := h
  clear h
  replace H := Option.bind_eq_some_iff.mp H
  obtain ⟨t104, A30, H⟩ := H
  replace H : (some t104) = some r := H
  have A3 := Aside0.mk A30
  clear A30
  obtain rfl := Option.some.inj H
  go_enter Try.func69, Try.ntmps69
  go_wp2_with (first | ((with_reducible refine gate_dst (N := 2) rfl ?_); refine box_event ?hg (N := 2) ?hd (cs := #[.int .u64 a0_0, .int .u64 a0_1]) (t := 56) ?hr ?_; (case hd => rfl); (case hg => rfl); (case hr => first | (go_simp; done) | (go_simp; rfl)); intro gb103 hg w4 hbox hb; have n0_ := Aside0.mk (below_step (by repeat (first | (with_reducible first | exact HB.out | apply below_alloc | apply pw_below_drewN | apply below_drew1) | exact HB.out)) hb); have n1_ := Aside0.mk (hbox); have n2_ := Aside0.mk ((by rw [hg]; exact (below_size (by repeat (first | (with_reducible first | exact HB.out | apply below_alloc | apply pw_below_drewN | apply below_drew1) | exact HB.out))) : w.heap.size ≤ gb103)); have n3_ := Aside0.mk ((by rw [hg]; exact (below_size (by repeat (first | (with_reducible first | exact HB.out | apply below_alloc | apply pw_below_drewN | apply below_drew1) | exact HB.out))) : w.heap.size ≤ gb103)); clear HB; have HB := n0_; have BK103 := n1_; have GW103 := n2_; have GE103 := n3_; clear n0_ n1_ n2_ n3_; clear hb hbox hg; have hcz5_0 : w4.cell? ⟨gb103, 0, none⟩ = some (.int .u64 a0_0) := (blk_cell BK103.out 0).trans rfl; have hcz5_1 : w4.cell? ⟨gb103, 1, none⟩ = some (.int .u64 a0_1) := (blk_cell BK103.out 1).trans rfl; have hfz5_0 := blk_frozen BK103.out 0; have hfz5_1 := blk_frozen BK103.out 1) | ((with_reducible refine gate_callee (f := 71) rfl ?_); refine goesL_ (some 8) rfl rfl Try.func71 (by kernel_rfl) rfl #[.int .u64 a0_0, .int .u64 a1] rfl (by (try simp only [List.map_toArray, List.map_cons, List.map_nil]); first | done | rfl | (simp only [List.length_drop, List.length_take]; rfl)) ?_; (with_reducible refine (cmp_Compare_uint64.calls a0_0 a1 t104 _ A3.out).mono ?_); rintro e w' ⟨rfl, ⟨nd, rfl⟩⟩; refine ⟨_, rfl, ?_⟩))
  go_ret
  exact ⟨by first | rfl | (simp [errW_none, errW_some] <;> rfl) | (simp [*, errW_none, errW_some] <;> rfl), by repeat (first | (with_reducible first | exact HB.out | apply below_alloc | apply pw_below_drewN | apply below_drew1 | refine below_set ?_ GE103.out) | exact HB.out)⟩
def seq_Pair_uint64.l0 : Nat → List (S56) → Int → Int → Int → Int → Option (Int × Bool)
  | 0, _, _, _, _, _ => none
  | k + 1, x0, x1, x8, x9, x10 => if x9 < x10 then (if 0 ≤ (wrap64 ((IntKind.u64.wrap (wrap64 (x9 + x10))) / 2)) then (if (wrap64 ((IntKind.u64.wrap (wrap64 (x9 + x10))) / 2)) < (x0.length : Int) then ((seq_Pair_to.f ((rd_T56 x0 (wrap64 ((IntKind.u64.wrap (wrap64 (x9 + x10))) / 2))).f0) ((rd_T56 x0 (wrap64 ((IntKind.u64.wrap (wrap64 (x9 + x10))) / 2))).f1) x1).bind fun t106 => (if t106 < 0 then (seq_Pair_uint64.l0 k x0 x1 x8 (wrap64 ((wrap64 ((IntKind.u64.wrap (wrap64 (x9 + x10))) / 2)) + 1)) x10) else (seq_Pair_uint64.l0 k x0 x1 x8 x9 (wrap64 ((IntKind.u64.wrap (wrap64 (x9 + x10))) / 2))))) else (none)) else (none)) else (if x9 < x8 then (if 0 ≤ x9 then (if x9 < (x0.length : Int) then ((seq_Pair_to.f ((rd_T56 x0 x9).f0) ((rd_T56 x0 x9).f1) x1).bind fun t108 => (some (x9, (t108 == 0)))) else (none)) else (none)) else (some (x9, false)))
def seq_Pair_uint64.f (k : Nat) (l0 : List (S56)) (a1 : Int) (a2 : Int) : Option (Int × Bool) := seq_Pair_uint64.l0 k l0 a1 (l0.length : Int) 0 (l0.length : Int)
set_option maxHeartbeats 8000000 in
set_option maxRecDepth 100000 in
theorem seq_Pair_uint64.calls (k : Nat) (A0 : Option Addr) (c0 : Nat) (l0 : List (S56)) (a1 : Int) (a2 : Int) (r1 : Int) (r2 : Bool) (w : World) (hr0 : Kd.C k56 w A0 l0.length l0) (hc0 : l0.length ≤ c0) (h : seq_Pair_uint64.f k l0 a1 a2 = some (r1, r2)) :
    Calls Try.prog 68 #[.slice A0 l0.length c0, .int .u64 a1, .func (.func 69) #[] #[]] w fun e w' => e = .returned (.tuple #[.int .i64 r1, .bool r2]) ∧ Below w.heap.size w w' := by
  have hu56 := Try.underlying56
  have HR0 := Aside0.mk hr0
  have HC0 := Aside0.mk hc0
  clear hr0 hc0
  have HB := Aside0.mk (Below.refl w.heap.size w)
  have H : (seq_Pair_uint64.l0 k l0 a1 (l0.length : Int) 0 (l0.length : Int)) = some (r1, r2) := h
  clear h
  have H' := Aside0.mk H
  clear H
  go_enter Try.func68, Try.ntmps68
  go_wp2
  go_loopg [9, 10] k (fun kq v9 v10 w' => ∃ (x9_1 : Int) (x10_1 : Int), v9 = .int .i64 x9_1 ∧ v10 = .int .i64 x10_1 ∧ Aside0 (seq_Pair_uint64.l0 kq l0 a1 (l0.length : Int) x9_1 x10_1 = some (r1, r2)) ∧ Aside0 (kq ≤ k) ∧ Aside0 (Below w.heap.size w w'))
  case atStart => exact ⟨(0), ((l0.length : Int)), (by first | rfl | (simp; done) | (simp [*]; done)), (by first | rfl | (simp; done) | (simp [*]; done)), H', ⟨Nat.le_refl _⟩, ⟨by repeat (first | (with_reducible first | exact HB.out | apply below_alloc | apply pw_below_drewN | apply below_drew1) | exact HB.out)⟩⟩
  case round =>
    clear H'
    try clear p2
    obtain ⟨x9_1, x10_1, rfl, rfl, HA, HK1, HB⟩ := hrel
    cases gk with
    | zero => exact absurd HA.out (by simp [seq_Pair_uint64.l0])
    | succ k1 =>
      have H := HA.out
      clear HA
      simp only [seq_Pair_uint64.l0] at H
      by_cases c4 : x9_1 < x10_1
      · rw [if_pos c4] at H
        have c4b0 : decide (x9_1 < x10_1) = true := decide_eq_true c4
        clear c4
        obtain ⟨ji5, hji5⟩ : ∃ j_ : Int, (wrap64 ((IntKind.u64.wrap (wrap64 (x9_1 + x10_1))) / 2)) = j_ := ⟨_, rfl⟩
        replace H : (if 0 ≤ (ji5) then (if (ji5) < (l0.length : Int) then ((seq_Pair_to.f ((rd_T56 l0 (ji5)).f0) ((rd_T56 l0 (ji5)).f1) a1).bind fun t106 => (if t106 < 0 then (seq_Pair_uint64.l0 k1 l0 a1 (l0.length : Int) (wrap64 ((ji5) + 1)) x10_1) else (seq_Pair_uint64.l0 k1 l0 a1 (l0.length : Int) x9_1 ji5))) else (none)) else (none)) = some (r1, r2) := by first | (rw [hji5] at H; exact H) | (simp only [hji5] at H ⊢; exact H)
        have hji5w : (IntKind.i64.wrap ((IntKind.u64.wrap (wrap64 (x9_1 + x10_1))) / 2)) = ji5 := (i64_w _).trans hji5
        by_cases c6 : 0 ≤ (ji5)
        · rw [if_pos c6] at H
          have c6b0 : decide (0 ≤ (ji5)) = true := decide_eq_true c6
          clear c6
          by_cases c7 : (ji5) < (l0.length : Int)
          · rw [if_pos c7] at H
            have c7b0 : decide ((ji5) < (l0.length : Int)) = true := decide_eq_true c7
            clear c7
            replace H := Option.bind_eq_some_iff.mp H
            obtain ⟨t106, A80, H⟩ := H
            replace H : (if t106 < 0 then (seq_Pair_uint64.l0 k1 l0 a1 (l0.length : Int) (wrap64 ((ji5) + 1)) x10_1) else (seq_Pair_uint64.l0 k1 l0 a1 (l0.length : Int) x9_1 ji5)) = some (r1, r2) := H
            have A8 := Aside0.mk A80
            clear A80
            by_cases c9 : t106 < 0
            · rw [if_pos c9] at H
              have c9b0 : decide (t106 < 0) = true := decide_eq_true c9
              clear c9
              have H' := Aside0.mk H
              clear H
              have p105 : 0 ≤ ((ji5) : Int) := of_decide_eq_true (by first | (with_reducible assumption) | assumption)
              have q105 : (ji5) < (l0.length : Int) := of_decide_eq_true (by first | (with_reducible assumption) | assumption)
              obtain ⟨ad105, e105, hx105_0, hx105_1⟩ := at_T56 HR0.out (ji5) p105 q105
              cases e105
              replace hx105_0 := (HB.out.cell (World.block_lt_of_cell? w _ hx105_0)).trans hx105_0
              replace hx105_1 := (HB.out.cell (World.block_lt_of_cell? w _ hx105_1)).trans hx105_1
              replace p105 := eq_true p105
              replace q105 := eq_true q105
              go_wp2_with (first | ((go_at_call 69); (with_reducible refine (seq_Pair_to.calls ((rd_T56 l0 (ji5)).f0) ((rd_T56 l0 (ji5)).f1) a1 t106 _ A8.out).mono ?_); rintro e w10 ⟨rfl, hb⟩; have n0_ := Aside0.mk (below_step (by repeat (first | (with_reducible first | exact HB.out | apply below_alloc | apply pw_below_drewN | apply below_drew1) | exact HB.out)) hb); clear HB; have HB := n0_; clear n0_; (try clear hb); (try clear hb2); (try clear hk); (try clear hi)))
              go_roundg k1
              case measure => have := HK1.out; omega
              case rel => exact ⟨(wrap64 ((ji5) + 1)), (x10_1), (by first | rfl | (simp; done) | (simp only [← hji5] <;> (first | rfl | simp)) | (simp [*]; done)), (by first | rfl | (simp; done) | (simp [*]; done)), H', ⟨by have := HK1.out; omega⟩, ⟨by repeat (first | (with_reducible first | exact HB.out | apply below_alloc | apply pw_below_drewN | apply below_drew1) | exact HB.out)⟩⟩
            · rw [if_neg c9] at H
              have c9b0 : decide (t106 < 0) = false := decide_eq_false c9
              clear c9
              have H' := Aside0.mk H
              clear H
              have p105 : 0 ≤ ((ji5) : Int) := of_decide_eq_true (by first | (with_reducible assumption) | assumption)
              have q105 : (ji5) < (l0.length : Int) := of_decide_eq_true (by first | (with_reducible assumption) | assumption)
              obtain ⟨ad105, e105, hx105_0, hx105_1⟩ := at_T56 HR0.out (ji5) p105 q105
              cases e105
              replace hx105_0 := (HB.out.cell (World.block_lt_of_cell? w _ hx105_0)).trans hx105_0
              replace hx105_1 := (HB.out.cell (World.block_lt_of_cell? w _ hx105_1)).trans hx105_1
              replace p105 := eq_true p105
              replace q105 := eq_true q105
              go_wp2_with (first | ((go_at_call 69); (with_reducible refine (seq_Pair_to.calls ((rd_T56 l0 (ji5)).f0) ((rd_T56 l0 (ji5)).f1) a1 t106 _ A8.out).mono ?_); rintro e w11 ⟨rfl, hb⟩; have n0_ := Aside0.mk (below_step (by repeat (first | (with_reducible first | exact HB.out | apply below_alloc | apply pw_below_drewN | apply below_drew1) | exact HB.out)) hb); clear HB; have HB := n0_; clear n0_; (try clear hb); (try clear hb2); (try clear hk); (try clear hi)))
              go_roundg k1
              case measure => have := HK1.out; omega
              case rel => exact ⟨(x9_1), (ji5), (by first | rfl | (simp; done) | (simp [*]; done)), (by first | rfl | (simp; done) | (simp only [← hji5] <;> (first | rfl | simp)) | (simp [*]; done)), H', ⟨by have := HK1.out; omega⟩, ⟨by repeat (first | (with_reducible first | exact HB.out | apply below_alloc | apply pw_below_drewN | apply below_drew1) | exact HB.out)⟩⟩
          · rw [if_neg c7] at H
            exact absurd H (by simp)
        · rw [if_neg c6] at H
          exact absurd H (by simp)
      · rw [if_neg c4] at H
        have c4b0 : decide (x9_1 < x10_1) = false := decide_eq_false c4
        clear c4
        by_cases c12 : x9_1 < (l0.length : Int)
        · rw [if_pos c12] at H
          have c12b0 : decide (x9_1 < (l0.length : Int)) = true := decide_eq_true c12
          clear c12
          by_cases c13 : 0 ≤ x9_1
          · rw [if_pos c13] at H
            have c13b0 : decide (0 ≤ x9_1) = true := decide_eq_true c13
            clear c13
            by_cases c14 : x9_1 < (l0.length : Int)
            · rw [if_pos c14] at H
              have c14b0 : decide (x9_1 < (l0.length : Int)) = true := decide_eq_true c14
              clear c14
              replace H := Option.bind_eq_some_iff.mp H
              obtain ⟨t108, A150, H⟩ := H
              replace H : (some (x9_1, (t108 == 0))) = some (r1, r2) := H
              have A15 := Aside0.mk A150
              clear A150
              simp only [Option.some.injEq, Prod.mk.injEq] at H
              obtain ⟨rfl, rfl⟩ := H
              have p107 : 0 ≤ (x9_1 : Int) := of_decide_eq_true (by first | (with_reducible assumption) | assumption)
              have q107 : x9_1 < (l0.length : Int) := of_decide_eq_true (by first | (with_reducible assumption) | assumption)
              obtain ⟨ad107, e107, hx107_0, hx107_1⟩ := at_T56 HR0.out x9_1 p107 q107
              cases e107
              replace hx107_0 := (HB.out.cell (World.block_lt_of_cell? w _ hx107_0)).trans hx107_0
              replace hx107_1 := (HB.out.cell (World.block_lt_of_cell? w _ hx107_1)).trans hx107_1
              replace p107 := eq_true p107
              replace q107 := eq_true q107
              go_wp2_with (first | (go_at_call 69; (with_reducible refine (seq_Pair_to.calls ((rd_T56 l0 x9_1).f0) ((rd_T56 l0 x9_1).f1) a1 t108 _ A15.out).mono ?_); rintro e w16 ⟨rfl, hb⟩; have n0_ := Aside0.mk (below_step (by repeat (first | (with_reducible first | exact HB.out | apply below_alloc | apply pw_below_drewN | apply below_drew1) | exact HB.out)) hb); clear HB; have HB := n0_; clear n0_; (try clear hb); (try clear hb2); (try clear hk); (try clear hi)))
              go_ret2
              exact ⟨by first | rfl | (simp [errW_none, errW_some] <;> rfl) | (simp [*, errW_none, errW_some] <;> rfl), by repeat (first | (with_reducible first | exact HB.out | apply below_alloc | apply pw_below_drewN | apply below_drew1) | exact HB.out)⟩
            · rw [if_neg c14] at H
              exact absurd H (by simp)
          · rw [if_neg c13] at H
            exact absurd H (by simp)
        · rw [if_neg c12] at H
          have c12b0 : decide (x9_1 < (l0.length : Int)) = false := decide_eq_false c12
          clear c12
          simp only [Option.some.injEq, Prod.mk.injEq] at H
          obtain ⟨rfl, rfl⟩ := H
          go_wp2
          go_ret2
          exact ⟨by first | rfl | (simp [errW_none, errW_some] <;> rfl) | (simp [*, errW_none, errW_some] <;> rfl), by repeat (first | (with_reducible first | exact HB.out | apply below_alloc | apply pw_below_drewN | apply below_drew1) | exact HB.out)⟩
def seq_Map_place.f (k : Nat) (l0_0 : List (S56)) (a1 : Int) : Option (Int × Bool) := (seq_Pair_uint64.f k l0_0 a1 0).bind fun bt110 => (some (bt110.1, bt110.2))
set_option maxHeartbeats 8000000 in
set_option maxRecDepth 100000 in
theorem seq_Map_place.calls (k : Nat) (A0_0 : Option Addr) (c0_0 : Nat) (l0_0 : List (S56)) (a1 : Int) (r1 : Int) (r2 : Bool) (w : World) (hr0_0 : Kd.C k56 w A0_0 l0_0.length l0_0) (hc0_0 : l0_0.length ≤ c0_0) (h : seq_Map_place.f k l0_0 a1 = some (r1, r2)) :
    Calls Try.prog 63 #[.agg #[.slice A0_0 l0_0.length c0_0], .int .u64 a1] w fun e w' => e = .returned (.tuple #[.int .i64 r1, .bool r2]) ∧ Below w.heap.size w w' := by
  have hu35 := Try.underlying35
  have HR0_0 := Aside0.mk hr0_0
  have HC0_0 := Aside0.mk hc0_0
  clear hr0_0 hc0_0
  have HB := Aside0.mk (Below.refl w.heap.size w)
  have H : ((seq_Pair_uint64.f k l0_0 a1 0).bind fun bt110 => (some (bt110.1, bt110.2))) = some (r1, r2) := h
  clear h
  replace H := Option.bind_eq_some_iff.mp H
  obtain ⟨⟨t110, t111⟩, A30, H⟩ := H
  replace H : (some (t110, t111)) = some (r1, r2) := H
  have A3 := Aside0.mk A30
  clear A30
  simp only [Option.some.injEq, Prod.mk.injEq] at H
  obtain ⟨rfl, rfl⟩ := H
  go_enter Try.func63, Try.ntmps63
  go_wp2_with (first | ((with_reducible refine gate_dst (N := 2) rfl ?_); refine box_event ?hg (N := 2) ?hd (cs := #[.slice A0_0 l0_0.length c0_0]) (t := 35) ?hr ?_; (case hd => rfl); (case hg => rfl); (case hr => first | (go_simp; done) | (go_simp; rfl)); intro gb109 hg w4 hbox hb; have n0_ := Aside0.mk (below_step (by repeat (first | (with_reducible first | exact HB.out | apply below_alloc | apply pw_below_drewN | apply below_drew1) | exact HB.out)) hb); have n1_ := Aside0.mk (hbox); have n2_ := Aside0.mk ((by rw [hg]; exact (below_size (by repeat (first | (with_reducible first | exact HB.out | apply below_alloc | apply pw_below_drewN | apply below_drew1) | exact HB.out))) : w.heap.size ≤ gb109)); have n3_ := Aside0.mk ((by rw [hg]; exact (below_size (by repeat (first | (with_reducible first | exact HB.out | apply below_alloc | apply pw_below_drewN | apply below_drew1) | exact HB.out))) : w.heap.size ≤ gb109)); clear HB; have HB := n0_; have BK109 := n1_; have GW109 := n2_; have GE109 := n3_; clear n0_ n1_ n2_ n3_; clear hb hbox hg; have hcz5_0 : w4.cell? ⟨gb109, 0, none⟩ = some (.slice A0_0 l0_0.length c0_0) := (blk_cell BK109.out 0).trans rfl; have hfz5_0 := blk_frozen BK109.out 0) | ((with_reducible refine gate_callee (f := 68) rfl ?_); refine goesL_ (some 9) rfl rfl Try.func68 (by kernel_rfl) rfl #[.slice A0_0 l0_0.length c0_0, .int .u64 a1, .func (.func 69) #[] #[]] rfl (by (try simp only [List.map_toArray, List.map_cons, List.map_nil]); first | done | rfl | (simp only [List.length_drop, List.length_take]; rfl)) ?_; (with_reducible refine (seq_Pair_uint64.calls k _ _ l0_0 a1 0 t110 t111 _ ?side1 ?side2 A3.out).mono ?_); (case side1 => repeat (first | exact (Kd.C_below HR0_0.out HB.out) | (with_reducible refine Kd.C_alloc ?_ _) | (with_reducible refine Kd.C_drewN ?_ _) | (with_reducible refine Kd.C_drew ?_))); (case side2 => exact HC0_0.out); rintro e w6 ⟨rfl, hb⟩; refine ⟨_, rfl, ?_⟩; have n0_ := Aside0.mk (blk_below (g := gb109) (o := .cells #[.slice A0_0 l0_0.length c0_0] 35 (0, 0)) (by (with_reducible repeat (first | refine blk_drewN ?_ _ | refine blk_drew ?_ | refine blk_alloc ?_ _)); exact BK109.out) hb); have n1_ := Aside0.mk (below_step (by repeat (first | (with_reducible first | exact HB.out | apply below_alloc | apply pw_below_drewN | apply below_drew1 | refine below_set ?_ GE109.out) | exact HB.out)) hb); clear BK109; clear HB; have BK109 := n0_; have HB := n1_; clear n0_ n1_; (try clear hb); (try clear hb2); (try clear hk); (try clear hi)))
  go_ret2
  exact ⟨by first | rfl | (simp [errW_none, errW_some] <;> rfl) | (simp [*, errW_none, errW_some] <;> rfl), by repeat (first | (with_reducible first | exact HB.out | apply below_alloc | apply pw_below_drewN | apply below_drew1 | refine below_set ?_ GE109.out) | exact HB.out)⟩
def seq_Map_get.f (k : Nat) (l0_0 : List (S56)) (a1 : Int) : Option (Bool × Bool × Int × List Int) := (seq_Map_place.f k l0_0 a1).bind fun bt114 => (if bt114.2 = true then (if 0 ≤ bt114.1 then (if bt114.1 < (l0_0.length : Int) then (some (false, true, (rd_T56 l0_0 bt114.1).f1, ([] : List Int))) else (none)) else (none)) else (some (false, false, 0, ([] : List Int))))
set_option maxHeartbeats 8000000 in
set_option maxRecDepth 100000 in
theorem seq_Map_get.calls (k : Nat) (A0_0 : Option Addr) (c0_0 : Nat) (l0_0 : List (S56)) (a1 : Int) (r1 : Bool) (r2 : Bool) (r3 : Int) (r4 : List Int) (w : World) (hr0_0 : Kd.C k56 w A0_0 l0_0.length l0_0) (hc0_0 : l0_0.length ≤ c0_0) (h : seq_Map_get.f k l0_0 a1 = some (r1, r2, r3, r4)) :
    Calls Try.prog 47 #[.agg #[.slice A0_0 l0_0.length c0_0], .int .u64 a1] w fun e w' => ∃ v3_ : Value, e = .returned (.agg #[.bool r1, .bool r2, .int .u64 r3, v3_]) ∧ Kd.R (Kd.int .u64) 41 w' w.heap.size (fun _ => True) v3_ r4 ∧ Below w.heap.size w w' := by
  have hu35 := Try.underlying35
  have hu46 := Try.underlying46
  have HR0_0 := Aside0.mk hr0_0
  have HC0_0 := Aside0.mk hc0_0
  clear hr0_0 hc0_0
  have HB := Aside0.mk (Below.refl w.heap.size w)
  have H : ((seq_Map_place.f k l0_0 a1).bind fun bt114 => (if bt114.2 = true then (if 0 ≤ bt114.1 then (if bt114.1 < (l0_0.length : Int) then (some (false, true, (rd_T56 l0_0 bt114.1).f1, ([] : List Int))) else (none)) else (none)) else (some (false, false, 0, ([] : List Int))))) = some (r1, r2, r3, r4) := h
  clear h
  replace H := Option.bind_eq_some_iff.mp H
  obtain ⟨⟨t114, t115⟩, A30, H⟩ := H
  replace H : (if t115 = true then (if 0 ≤ t114 then (if t114 < (l0_0.length : Int) then (some (false, true, (rd_T56 l0_0 t114).f1, ([] : List Int))) else (none)) else (none)) else (some (false, false, 0, ([] : List Int)))) = some (r1, r2, r3, r4) := H
  have A3 := Aside0.mk A30
  clear A30
  by_cases c4 : t115 = true
  · subst c4
    have H1 : (if 0 ≤ t114 then (if t114 < (l0_0.length : Int) then (some (false, true, (rd_T56 l0_0 t114).f1, ([] : List Int))) else (none)) else (none)) = some (r1, r2, r3, r4) := by rw [if_pos rfl] at H; exact H
    clear H
    have H := H1
    clear H1
    by_cases c5 : 0 ≤ t114
    · rw [if_pos c5] at H
      have c5b0 : decide (0 ≤ t114) = true := decide_eq_true c5
      clear c5
      by_cases c6 : t114 < (l0_0.length : Int)
      · rw [if_pos c6] at H
        have c6b0 : decide (t114 < (l0_0.length : Int)) = true := decide_eq_true c6
        clear c6
        simp only [Option.some.injEq, Prod.mk.injEq] at H
        obtain ⟨rfl, rfl, rfl, rfl⟩ := H
        go_enter Try.func47, Try.ntmps47
        go_wp2_with (first | ((with_reducible refine gate_dst (N := 2) rfl ?_); refine box_event ?hg (N := 2) ?hd (cs := #[.slice A0_0 l0_0.length c0_0]) (t := 35) ?hr ?_; (case hd => rfl); (case hg => rfl); (case hr => first | (go_simp; done) | (go_simp; rfl)); intro gb112 hg w7 hbox hb; have n0_ := Aside0.mk (below_step (by repeat (first | (with_reducible first | exact HB.out | apply below_alloc | apply pw_below_drewN | apply below_drew1) | exact HB.out)) hb); have n1_ := Aside0.mk (hbox); have n2_ := Aside0.mk ((by rw [hg]; exact (below_size (by repeat (first | (with_reducible first | exact HB.out | apply below_alloc | apply pw_below_drewN | apply below_drew1) | exact HB.out))) : w.heap.size ≤ gb112)); have n3_ := Aside0.mk ((by rw [hg]; exact (below_size (by repeat (first | (with_reducible first | exact HB.out | apply below_alloc | apply pw_below_drewN | apply below_drew1) | exact HB.out))) : w.heap.size ≤ gb112)); clear HB; have HB := n0_; have BK112 := n1_; have GW112 := n2_; have GE112 := n3_; clear n0_ n1_ n2_ n3_; clear hb hbox hg) | ((with_reducible refine gate_dst (N := 4) rfl ?_); refine box_event ?hg (N := 4) ?hd (cs := #[.bool false, .bool false, .int .u64 0, .slice none 0 0]) (t := 46) ?hr ?_; (case hd => rfl); (case hg => rfl); (case hr => first | (go_simp; done) | (go_simp; rfl)); intro gb113 hg w8 hbox hb; have n0_ := Aside0.mk (blk_below (g := gb112) (o := .cells #[.slice A0_0 l0_0.length c0_0] 35 (0, 0)) (by (with_reducible repeat (first | refine blk_drewN ?_ _ | refine blk_drew ?_ | refine blk_alloc ?_ _)); exact BK112.out) hb); have n1_ := Aside0.mk (below_step (by repeat (first | (with_reducible first | exact HB.out | apply below_alloc | apply pw_below_drewN | apply below_drew1 | refine below_set ?_ GE112.out) | exact HB.out)) hb); have n2_ := Aside0.mk (hbox); have n3_ := Aside0.mk ((by rw [hg]; exact (below_size (by repeat (first | (with_reducible first | exact HB.out | apply below_alloc | apply pw_below_drewN | apply below_drew1 | refine below_set ?_ GE112.out) | exact HB.out))) : w.heap.size ≤ gb113)); have n4_ := Aside0.mk ((by rw [hg]; exact (below_size (by repeat (first | (with_reducible first | exact HB.out | apply below_alloc | apply pw_below_drewN | apply below_drew1 | refine below_set ?_ GE112.out) | exact HB.out))) : w.heap.size ≤ gb113)); have n5_ := Aside0.mk ((by rw [hg]; exact Nat.ne_of_lt (blk_lt (g := gb112) (o := .cells #[.slice A0_0 l0_0.length c0_0] 35 (0, 0)) (by (with_reducible repeat (first | refine blk_drewN ?_ _ | refine blk_drew ?_ | refine blk_alloc ?_ _)); exact BK112.out)) : gb112 ≠ gb113)); have n6_ := Aside0.mk ((by rw [hg]; exact Nat.ne_of_gt (blk_lt (g := gb112) (o := .cells #[.slice A0_0 l0_0.length c0_0] 35 (0, 0)) (by (with_reducible repeat (first | refine blk_drewN ?_ _ | refine blk_drew ?_ | refine blk_alloc ?_ _)); exact BK112.out)) : gb113 ≠ gb112)); clear BK112; clear HB; have BK112 := n0_; have HB := n1_; have BK113 := n2_; have GW113 := n3_; have GE113 := n4_; have NB112_113 := n5_; have NB113_112 := n6_; clear n0_ n1_ n2_ n3_ n4_ n5_ n6_; clear hb hbox hg; have hnb9 := NB112_113.out; have hnc9 := NB113_112.out; have hcz10_0 : w8.cell? ⟨gb112, 0, none⟩ = some (.slice A0_0 l0_0.length c0_0) := (blk_cell BK112.out 0).trans rfl; have hfz10_0 := blk_frozen BK112.out 0) | ((with_reducible refine gate_callee (f := 63) rfl ?_); refine goesL_ (some 10) rfl rfl Try.func63 (by kernel_rfl) rfl #[.agg #[.slice A0_0 l0_0.length c0_0], .int .u64 a1] rfl (by (try simp only [List.map_toArray, List.map_cons, List.map_nil]); first | done | rfl | (simp only [List.length_drop, List.length_take]; rfl)) ?_; (with_reducible refine (seq_Map_place.calls k _ _ l0_0 a1 t114 true _ ?side1 ?side2 A3.out).mono ?_); (case side1 => repeat (first | exact (Kd.C_below HR0_0.out HB.out) | (with_reducible refine Kd.C_alloc ?_ _) | (with_reducible refine Kd.C_drewN ?_ _) | (with_reducible refine Kd.C_drew ?_))); (case side2 => exact HC0_0.out); rintro e w11 ⟨rfl, hb⟩; refine ⟨_, rfl, ?_⟩; have n0_ := Aside0.mk (blk_below (g := gb112) (o := .cells #[.slice A0_0 l0_0.length c0_0] 35 (0, 0)) (by (with_reducible repeat (first | refine blk_drewN ?_ _ | refine blk_drew ?_ | refine blk_alloc ?_ _)); exact BK112.out) hb); have n1_ := Aside0.mk (blk_below (g := gb113) (o := .cells #[.bool false, .bool false, .int .u64 0, .slice none 0 0] 46 (0, 0)) (by (with_reducible repeat (first | refine blk_drewN ?_ _ | refine blk_drew ?_ | refine blk_alloc ?_ _)); exact BK113.out) hb); have n2_ := Aside0.mk (below_step (by repeat (first | (with_reducible first | exact HB.out | apply below_alloc | apply pw_below_drewN | apply below_drew1 | refine below_set ?_ GE112.out | refine below_set ?_ GE113.out) | exact HB.out)) hb); clear BK112; clear BK113; clear HB; have BK112 := n0_; have BK113 := n1_; have HB := n2_; clear n0_ n1_ n2_; (try clear hb); (try clear hb2); (try clear hk); (try clear hi); have hcz12_0 : w11.cell? ⟨gb112, 0, none⟩ = some (.slice A0_0 l0_0.length c0_0) := (blk_cell BK112.out 0).trans rfl; have hfz12_0 := blk_frozen BK112.out 0; have p116 : 0 ≤ (t114 : Int) := of_decide_eq_true (by first | (with_reducible assumption) | assumption); have q116 : t114 < (l0_0.length : Int) := of_decide_eq_true (by first | (with_reducible assumption) | assumption); obtain ⟨ad116, e116, hx116_0, hx116_1⟩ := at_T56 HR0_0.out t114 p116 q116; cases e116; replace hx116_0 := (HB.out.cell (World.block_lt_of_cell? w _ hx116_0)).trans hx116_0; replace hx116_1 := (HB.out.cell (World.block_lt_of_cell? w _ hx116_1)).trans hx116_1; replace p116 := eq_true p116; replace q116 := eq_true q116; have hcz13_0 : w11.cell? ⟨gb113, 0, none⟩ = some (.bool false) := (blk_cell BK113.out 0).trans rfl; have hcz13_1 : w11.cell? ⟨gb113, 1, none⟩ = some (.bool false) := (blk_cell BK113.out 1).trans rfl; have hcz13_2 : w11.cell? ⟨gb113, 2, none⟩ = some (.int .u64 0) := (blk_cell BK113.out 2).trans rfl; have hcz13_3 : w11.cell? ⟨gb113, 3, none⟩ = some (.slice none 0 0) := (blk_cell BK113.out 3).trans rfl; have hfz13_0 := blk_frozen BK113.out 0; have hfz13_1 := blk_frozen BK113.out 1; have hfz13_2 := blk_frozen BK113.out 2; have hfz13_3 := blk_frozen BK113.out 3))
        refine bodyPost_ret (results_cell_row rfl _ _ gb113 46 #[.bool false, .bool true, .int .u64 ((rd_T56 l0_0 t114).f1), .slice none 0 0] (0, 0) _ rfl (by (with_reducible repeat (first | refine blk_drewN ?_ _ | refine blk_drew ?_ | refine blk_alloc ?_ _)); refine blk_put (cs := #[.bool false, .bool true, .int .u64 ((rd_T56 l0_0 t114).f1), .slice none 0 0]) ?_ 3 _ rfl; (with_reducible repeat (first | refine blk_drewN ?_ _ | refine blk_drew ?_ | refine blk_alloc ?_ _)); refine blk_put (cs := #[.bool false, .bool true, .int .u64 0, .slice none 0 0]) ?_ 2 _ rfl; (with_reducible repeat (first | refine blk_drewN ?_ _ | refine blk_drew ?_ | refine blk_alloc ?_ _)); refine blk_put (cs := #[.bool false, .bool false, .int .u64 0, .slice none 0 0]) ?_ 1 _ rfl; (with_reducible repeat (first | refine blk_drewN ?_ _ | refine blk_drew ?_ | refine blk_alloc ?_ _)); refine blk_put (cs := #[.bool false, .bool false, .int .u64 0, .slice none 0 0]) ?_ 0 _ rfl; (with_reducible repeat (first | refine blk_drewN ?_ _ | refine blk_drew ?_ | refine blk_alloc ?_ _)); exact BK113.out) Try.underlying46 rfl (by kernel_rfl)) rfl ?_
        exact ⟨_, by first | rfl | (simp [errW_none, errW_some] <;> rfl) | (simp [*, errW_none, errW_some] <;> rfl), by first | exact Kd.R_nil _ _ _ _ _ | exact Kd.N_nil _ _ _ _ _ | exact Kd.V_nil _ _ _ _ _ | exact Kd.Q_nil _ _ _ _ _ | exact Kd.S_nil _ _ _ _ _, by repeat (first | (with_reducible first | exact HB.out | apply below_alloc | apply pw_below_drewN | apply below_drew1 | refine below_set ?_ GE112.out | refine below_set ?_ GE113.out) | exact HB.out)⟩
      · rw [if_neg c6] at H
        exact absurd H (by simp)
    · rw [if_neg c5] at H
      exact absurd H (by simp)
  · replace c4 := Bool.eq_false_iff.mpr c4
    subst c4
    have H1 : (some (false, false, 0, ([] : List Int))) = some (r1, r2, r3, r4) := by rw [if_neg (show ¬ (false = true) by decide)] at H; exact H
    clear H
    have H := H1
    clear H1
    simp only [Option.some.injEq, Prod.mk.injEq] at H
    obtain ⟨rfl, rfl, rfl, rfl⟩ := H
    go_enter Try.func47, Try.ntmps47
    go_wp2_with (first | ((with_reducible refine gate_dst (N := 2) rfl ?_); refine box_event ?hg (N := 2) ?hd (cs := #[.slice A0_0 l0_0.length c0_0]) (t := 35) ?hr ?_; (case hd => rfl); (case hg => rfl); (case hr => first | (go_simp; done) | (go_simp; rfl)); intro gb112 hg w14 hbox hb; have n0_ := Aside0.mk (below_step (by repeat (first | (with_reducible first | exact HB.out | apply below_alloc | apply pw_below_drewN | apply below_drew1) | exact HB.out)) hb); have n1_ := Aside0.mk (hbox); have n2_ := Aside0.mk ((by rw [hg]; exact (below_size (by repeat (first | (with_reducible first | exact HB.out | apply below_alloc | apply pw_below_drewN | apply below_drew1) | exact HB.out))) : w.heap.size ≤ gb112)); have n3_ := Aside0.mk ((by rw [hg]; exact (below_size (by repeat (first | (with_reducible first | exact HB.out | apply below_alloc | apply pw_below_drewN | apply below_drew1) | exact HB.out))) : w.heap.size ≤ gb112)); clear HB; have HB := n0_; have BK112 := n1_; have GW112 := n2_; have GE112 := n3_; clear n0_ n1_ n2_ n3_; clear hb hbox hg) | ((with_reducible refine gate_dst (N := 4) rfl ?_); refine box_event ?hg (N := 4) ?hd (cs := #[.bool false, .bool false, .int .u64 0, .slice none 0 0]) (t := 46) ?hr ?_; (case hd => rfl); (case hg => rfl); (case hr => first | (go_simp; done) | (go_simp; rfl)); intro gb113 hg w15 hbox hb; have n0_ := Aside0.mk (blk_below (g := gb112) (o := .cells #[.slice A0_0 l0_0.length c0_0] 35 (0, 0)) (by (with_reducible repeat (first | refine blk_drewN ?_ _ | refine blk_drew ?_ | refine blk_alloc ?_ _)); exact BK112.out) hb); have n1_ := Aside0.mk (below_step (by repeat (first | (with_reducible first | exact HB.out | apply below_alloc | apply pw_below_drewN | apply below_drew1 | refine below_set ?_ GE112.out) | exact HB.out)) hb); have n2_ := Aside0.mk (hbox); have n3_ := Aside0.mk ((by rw [hg]; exact (below_size (by repeat (first | (with_reducible first | exact HB.out | apply below_alloc | apply pw_below_drewN | apply below_drew1 | refine below_set ?_ GE112.out) | exact HB.out))) : w.heap.size ≤ gb113)); have n4_ := Aside0.mk ((by rw [hg]; exact (below_size (by repeat (first | (with_reducible first | exact HB.out | apply below_alloc | apply pw_below_drewN | apply below_drew1 | refine below_set ?_ GE112.out) | exact HB.out))) : w.heap.size ≤ gb113)); have n5_ := Aside0.mk ((by rw [hg]; exact Nat.ne_of_lt (blk_lt (g := gb112) (o := .cells #[.slice A0_0 l0_0.length c0_0] 35 (0, 0)) (by (with_reducible repeat (first | refine blk_drewN ?_ _ | refine blk_drew ?_ | refine blk_alloc ?_ _)); exact BK112.out)) : gb112 ≠ gb113)); have n6_ := Aside0.mk ((by rw [hg]; exact Nat.ne_of_gt (blk_lt (g := gb112) (o := .cells #[.slice A0_0 l0_0.length c0_0] 35 (0, 0)) (by (with_reducible repeat (first | refine blk_drewN ?_ _ | refine blk_drew ?_ | refine blk_alloc ?_ _)); exact BK112.out)) : gb113 ≠ gb112)); clear BK112; clear HB; have BK112 := n0_; have HB := n1_; have BK113 := n2_; have GW113 := n3_; have GE113 := n4_; have NB112_113 := n5_; have NB113_112 := n6_; clear n0_ n1_ n2_ n3_ n4_ n5_ n6_; clear hb hbox hg; have hnb16 := NB112_113.out; have hnc16 := NB113_112.out; have hcz17_0 : w15.cell? ⟨gb112, 0, none⟩ = some (.slice A0_0 l0_0.length c0_0) := (blk_cell BK112.out 0).trans rfl; have hfz17_0 := blk_frozen BK112.out 0) | ((with_reducible refine gate_callee (f := 63) rfl ?_); refine goesL_ (some 10) rfl rfl Try.func63 (by kernel_rfl) rfl #[.agg #[.slice A0_0 l0_0.length c0_0], .int .u64 a1] rfl (by (try simp only [List.map_toArray, List.map_cons, List.map_nil]); first | done | rfl | (simp only [List.length_drop, List.length_take]; rfl)) ?_; (with_reducible refine (seq_Map_place.calls k _ _ l0_0 a1 t114 false _ ?side1 ?side2 A3.out).mono ?_); (case side1 => repeat (first | exact (Kd.C_below HR0_0.out HB.out) | (with_reducible refine Kd.C_alloc ?_ _) | (with_reducible refine Kd.C_drewN ?_ _) | (with_reducible refine Kd.C_drew ?_))); (case side2 => exact HC0_0.out); rintro e w18 ⟨rfl, hb⟩; refine ⟨_, rfl, ?_⟩; have n0_ := Aside0.mk (blk_below (g := gb112) (o := .cells #[.slice A0_0 l0_0.length c0_0] 35 (0, 0)) (by (with_reducible repeat (first | refine blk_drewN ?_ _ | refine blk_drew ?_ | refine blk_alloc ?_ _)); exact BK112.out) hb); have n1_ := Aside0.mk (blk_below (g := gb113) (o := .cells #[.bool false, .bool false, .int .u64 0, .slice none 0 0] 46 (0, 0)) (by (with_reducible repeat (first | refine blk_drewN ?_ _ | refine blk_drew ?_ | refine blk_alloc ?_ _)); exact BK113.out) hb); have n2_ := Aside0.mk (below_step (by repeat (first | (with_reducible first | exact HB.out | apply below_alloc | apply pw_below_drewN | apply below_drew1 | refine below_set ?_ GE112.out | refine below_set ?_ GE113.out) | exact HB.out)) hb); clear BK112; clear BK113; clear HB; have BK112 := n0_; have BK113 := n1_; have HB := n2_; clear n0_ n1_ n2_; (try clear hb); (try clear hb2); (try clear hk); (try clear hi); have hcz19_0 : w18.cell? ⟨gb113, 0, none⟩ = some (.bool false) := (blk_cell BK113.out 0).trans rfl; have hcz19_1 : w18.cell? ⟨gb113, 1, none⟩ = some (.bool false) := (blk_cell BK113.out 1).trans rfl; have hcz19_2 : w18.cell? ⟨gb113, 2, none⟩ = some (.int .u64 0) := (blk_cell BK113.out 2).trans rfl; have hcz19_3 : w18.cell? ⟨gb113, 3, none⟩ = some (.slice none 0 0) := (blk_cell BK113.out 3).trans rfl; have hfz19_0 := blk_frozen BK113.out 0; have hfz19_1 := blk_frozen BK113.out 1; have hfz19_2 := blk_frozen BK113.out 2; have hfz19_3 := blk_frozen BK113.out 3))
    refine bodyPost_ret (results_cell_row rfl _ _ gb113 46 #[.bool false, .bool false, .int .u64 0, .slice none 0 0] (0, 0) _ rfl (by (with_reducible repeat (first | refine blk_drewN ?_ _ | refine blk_drew ?_ | refine blk_alloc ?_ _)); refine blk_put (cs := #[.bool false, .bool false, .int .u64 0, .slice none 0 0]) ?_ 3 _ rfl; (with_reducible repeat (first | refine blk_drewN ?_ _ | refine blk_drew ?_ | refine blk_alloc ?_ _)); refine blk_put (cs := #[.bool false, .bool false, .int .u64 0, .slice none 0 0]) ?_ 2 _ rfl; (with_reducible repeat (first | refine blk_drewN ?_ _ | refine blk_drew ?_ | refine blk_alloc ?_ _)); refine blk_put (cs := #[.bool false, .bool false, .int .u64 0, .slice none 0 0]) ?_ 1 _ rfl; (with_reducible repeat (first | refine blk_drewN ?_ _ | refine blk_drew ?_ | refine blk_alloc ?_ _)); refine blk_put (cs := #[.bool false, .bool false, .int .u64 0, .slice none 0 0]) ?_ 0 _ rfl; (with_reducible repeat (first | refine blk_drewN ?_ _ | refine blk_drew ?_ | refine blk_alloc ?_ _)); exact BK113.out) Try.underlying46 rfl (by kernel_rfl)) rfl ?_
    exact ⟨_, by first | rfl | (simp [errW_none, errW_some] <;> rfl) | (simp [*, errW_none, errW_some] <;> rfl), by first | exact Kd.R_nil _ _ _ _ _ | exact Kd.N_nil _ _ _ _ _ | exact Kd.V_nil _ _ _ _ _ | exact Kd.Q_nil _ _ _ _ _ | exact Kd.S_nil _ _ _ _ _, by repeat (first | (with_reducible first | exact HB.out | apply below_alloc | apply pw_below_drewN | apply below_drew1 | refine below_set ?_ GE112.out | refine below_set ?_ GE113.out) | exact HB.out)⟩
def seq_Pair_30.f (l0 : List (S56)) : Option ((List (S56))) := (some (([] : List (S56)) : List (S56))).bind fun y117 => (if y117.length + l0.length < 8796093022208 then (some (y117 ++ l0)) else (none))
set_option maxHeartbeats 8000000 in
set_option maxRecDepth 100000 in
theorem seq_Pair_30.calls1 (ad0 : Addr) (c0 : Nat) (l0 : List (S56)) (r : List (S56)) (w : World) (hr0 : Kd.C k56 w (some ad0) l0.length l0) (hc0 : l0.length ≤ c0) (h : seq_Pair_30.f l0 = some r) :
    Calls Try.prog 30 #[.slice (some ad0) l0.length c0] w fun e w' => ∃ v0_ : Value, e = .returned (v0_) ∧ Kd.R k56 56 w' w.heap.size (fun _ => True) v0_ r ∧ Below w.heap.size w w' := by
  have heq := fun (W : World) => Lib.run_eql_slice_nil (P := Try.prog) W 33 56 (some ad0) l0.length c0 0 0 Try.underlying33
  have HR0 := Aside0.mk hr0
  have HC0 := Aside0.mk hc0
  clear hr0 hc0
  have HB := Aside0.mk (Below.refl w.heap.size w)
  have H : ((some (([] : List (S56)) : List (S56))).bind fun y117 => (if y117.length + l0.length < 8796093022208 then (some (y117 ++ l0)) else (none))) = some r := h
  clear h
  obtain ⟨y117, hy117⟩ : ∃ y_ : List (S56), y_ = (([] : List (S56))) := ⟨_, rfl⟩
  replace H : (if y117.length + l0.length < 8796093022208 then (some (y117 ++ l0)) else (none)) = some r := by first | (rw [hy117]; with_reducible exact H) | (have H2_ := (Option.bind_some _ _).symm.trans H; rw [hy117]; with_reducible exact H2_) | (have H2_ := (Option.bind_some _ _).symm.trans H; with_reducible exact H2_) | with_reducible exact H | (rw [hy117]; exact H) | exact H
  have Ny117 := Aside0.mk hy117
  clear hy117
  by_cases c2 : y117.length + l0.length < 8796093022208
  · rw [if_pos c2] at H
    have LMc2 := Aside0.mk c2
    clear c2
    obtain ⟨y120, hy120⟩ : ∃ y_ : List (S56), y_ = (y117 ++ l0) := ⟨_, rfl⟩
    replace H : (some y120) = some r := by first | (rw [hy120]; with_reducible exact H) | (have H2_ := (Option.bind_some _ _).symm.trans H; rw [hy120]; with_reducible exact H2_) | (have H2_ := (Option.bind_some _ _).symm.trans H; with_reducible exact H2_) | with_reducible exact H | (rw [hy120]; exact H) | exact H
    have Ny120 := Aside0.mk hy120
    clear hy120
    obtain rfl := Option.some.inj H
    go_enter Try.func30, Try.ntmps30
    go_wp2_with (first | ((with_reducible refine gate_dst (N := 5) rfl ?_); refine Kd.R_lit k56 _ 56 ?hg (N := 5) ?hd (xs := ([] : List (S56))) (inner := []) (ok := fun _ => True) (okp := fun _ => True) ?hr ?hp (fun _ hk => hk) trivial (Below.refl _ _) (Nat.le_refl _) (by simp) ?_; (case hd => rfl); (case hg => rfl); (case hr => first | (go_simp; done) | (go_simp; rfl)); (case hp => exact (Reps.none _ _)); intro v118 w3 ho4 hb hg_ hnew_; clear hg_ hnew_; (first | rw [← Ny117.out] at ho4 | (simp only [Int.reduceToNat] at ho4; rw [← Ny117.out] at ho4)); have n0_ := Aside0.mk (Kd.R_lower ho4 (below_size (by repeat (first | (with_reducible first | exact HB.out | apply below_alloc | apply pw_below_drewN | apply below_drew1) | exact HB.out)))); have n1_ := Aside0.mk (below_step (by repeat (first | (with_reducible first | exact HB.out | apply below_alloc | apply pw_below_drewN | apply below_drew1) | exact HB.out)) hb); clear HB; have HO119 := n0_; have HB := n1_; clear n0_ n1_; clear hb ho4) | ((with_reducible refine gate_builtin (b := .append) (xs := #[.tmp 5, .tmp 6]) rfl ?_); at_builtin; refine Kd.R_append_rows k56 (w0 := w) w.heap.size rfl (.tmp 5) (.tmp 6) 33 56 (.agg #[(.int .u64 0), (.int .u64 0)]) 16 rfl Try.underlying33 info56 rfl (by decide) (by omega) v118 y117 l0 _ _ _ (fun _ => True) (fun _ => False) rfl rfl ?aO ?aR (fun _ _ h => h) (fun _ h => h.elim) ?aF ?aB ?aS ?aL ?_; (case aR => repeat (first | exact (Kd.C_below HR0.out HB.out) | (with_reducible refine Kd.C_alloc ?_ _) | (with_reducible refine Kd.C_drewN ?_ _) | (with_reducible refine Kd.C_drew ?_))); (case aB => exact (by repeat (first | (with_reducible first | exact HB.out | apply below_alloc | apply pw_below_drewN | apply below_drew1) | exact HB.out))); (case aF => exact (fun _ _ => trivial)); (case aO => exact (by (with_reducible repeat (first | apply Kd.R_alloc | apply Kd.R_drewN | apply Kd.R_drew)); exact HO119.out)); (case aS => exact (below_size (by repeat (first | (with_reducible first | exact HB.out | apply below_alloc | apply pw_below_drewN | apply below_drew1) | exact HB.out)))); (case aL => have := LMc2.out; omega); intro v121 w5 ho hb hg hat; rw [← Ny120.out] at ho; have n0_ := Aside0.mk (hb); have n1_ := Aside0.mk (ho); clear HB; clear HO119; have HB := n0_; have HO122 := n1_; clear n0_ n1_; clear ho hb hg hat))
    go_ret
    exact ⟨_, by first | rfl | (simp [errW_none, errW_some] <;> rfl) | (simp [*, errW_none, errW_some] <;> rfl), by (with_reducible repeat (first | apply Kd.R_alloc | apply Kd.R_drewN | apply Kd.R_drew)); exact HO122.out, by repeat (first | (with_reducible first | exact HB.out | apply below_alloc | apply pw_below_drewN | apply below_drew1) | exact HB.out)⟩
  · rw [if_neg c2] at H
    exact absurd H (by simp)
set_option maxRecDepth 100000 in
theorem seq_Pair_30.calls (A0 : Option Addr) (c0 : Nat) (l0 : List (S56)) (r : List (S56)) (w : World) (hr0 : Kd.C k56 w A0 l0.length l0) (hc0 : l0.length ≤ c0) (h : seq_Pair_30.f l0 = some r) :
    Calls Try.prog 30 #[.slice A0 l0.length c0] w fun e w' => ∃ v0_ : Value, e = .returned (v0_) ∧ Kd.R k56 56 w' w.heap.size (fun _ => True) v0_ r ∧ Below w.heap.size w w' := by
  cases A0 with
  | some ad0 => exact seq_Pair_30.calls1 ad0 c0 l0 r w hr0 hc0 h
  | none =>
    have hn : l0 = [] := by
      by_cases h0 : 0 < l0.length
      · obtain ⟨_, e, _⟩ := hr0.2.2 h0
        cases e
      · exact List.length_eq_zero_iff.1 (by omega)
    subst hn
    have hr : r = [] := by
      have h2 : (if (0 : Nat) + 0 < 8796093022208 then some ([] : List S56) else none) = some r := by unfold seq_Pair_30.f at h; simpa using h
      rw [if_pos (by decide)] at h2
      exact (Option.some.inj h2).symm
    subst hr
    have heq := fun (W : World) => Lib.run_eql_slice_nil (P := Try.prog) W 33 56 none 0 c0 0 0 Try.underlying33
    clear hr0 hc0 h
    go_enter Try.func30, Try.ntmps30
    go_wp2
    go_ret
    exact ⟨_, rfl, Kd.R_nil _ _ _ _ _, Below.refl _ _⟩
theorem clear_run (g o : Nat) (W : World) (cur : Array Value) (cc : Nat) (ty : TypeId) (hg : W.heap[g]? = some (.cells cur 56 (0, 0))) (hl : o + 2 ≤ cur.size) :
    (Builtin.clear_ #[33] ty #[.slice (some ⟨g, o, none⟩) 1 cc]).run Try.prog W = .ok (.tuple #[]) (W.setRow g (cur.toList.take (o + 0) ++ [Value.int .u64 0, Value.int .u64 0] ++ cur.toList.drop (o + 0 + 2)).toArray) := by
  have hz : (zeroValue 56).run Try.prog W = .ok (.agg #[.int .u64 0, .int .u64 0]) W := by kernel_rfl
  have hs := run_storeCells_at Try.prog g o 56 [.int .u64 0, .int .u64 0] 0 cur W hg (by simpa using hl) (by intro v hv; simp at hv; subst hv; rfl)
  have hc : (Builtin.zeroCells (Value.agg #[.int .u64 0, .int .u64 0]).cells 1).toList = [Value.int .u64 0, Value.int .u64 0] := by simp [Builtin.zeroCells, Value.cells, show List.range 2 = [0, 1] from rfl]
  simp only [Builtin.clear_]
  simp [run_underlying Try.underlying33, Sem.run_bind, hz, hc, hs]
theorem clear_own {W : World} {base g n c : Nat} {l : List S56} (h : Kd.R k56 56 W base (fun _ => True) (.slice (some ⟨g, 0, none⟩) n c) l) (hn : n < c) :
    ∃ w2, (∀ cc ty, (Builtin.clear_ #[33] ty #[.slice (some ⟨g, n * 2, none⟩) 1 cc]).run Try.prog W = .ok (.tuple #[]) w2) ∧ Kd.R k56 56 w2 base (fun _ => True) (.slice (some ⟨g, 0, none⟩) n c) l ∧ Below base W w2 := by
  obtain ⟨_, inner, ⟨hlen, hrow⟩, hr⟩ := h
  rcases hrow with ⟨e, _⟩ | ⟨g', cap, cur, e, hb, hg, hnc, hcm, hsz, htk⟩
  · cases e
  · injection e with e1 e2 e3
    injection e1 with e1
    injection e1 with e1
    subst e1 e2 e3
    have hsz' : cur.size = c * 2 := hsz
    have hcl : cur.toList.length = c * 2 := by rw [Array.length_toList]; exact hsz'
    have hlt : g < W.heap.size := (Array.getElem?_eq_some_iff.1 hg).1
    refine ⟨_, fun cc ty => clear_run g (l.length * 2) W cur cc ty hg (by omega), ⟨fun _ _ => trivial, inner, ⟨hlen, .inr ⟨g, c, (cur.toList.take (l.length * 2 + 0) ++ [Value.int .u64 0, Value.int .u64 0] ++ cur.toList.drop (l.length * 2 + 0 + 2)).toArray, rfl, hb, ?_, hnc, hcm, ?_, ?_⟩⟩, ?_⟩, ?_⟩
    · exact setRow_heap W g _ _ _ _ hg
    · simp only [List.size_toArray, List.length_append, List.length_take, List.length_drop, List.length_cons, List.length_nil, Array.length_toList]
      show _ = c * 2
      omega
    ·
      show List.take (l.length * 2) (cur.toList.take (l.length * 2 + 0) ++ [Value.int .u64 0, Value.int .u64 0] ++ cur.toList.drop (l.length * 2 + 0 + 2)) = inner
      rw [List.append_assoc, List.take_append_of_le_length (by rw [List.length_take, hcl]; omega), Nat.add_zero, List.take_take, Nat.min_self]
      exact htk
    · refine hr.imp_ (fun p cs hp => ?_)
      obtain rfl := k56_openM hp
      exact k56_mkM _ _ _ p
    · exact ⟨rfl, rfl, rfl, by simp, fun k hk => setRow_other W g k _ (by omega)⟩
set_option maxHeartbeats 2000000 in
set_option maxRecDepth 100000 in
theorem delete_calls (v : Value) (l : List S56) (i : Int) (W : World) (base : Nat) (HO : Kd.R k56 56 W base (fun _ => True) v l) (h0 : 0 ≤ i) (hi : i < l.length) (hl : l.length ≤ 1000000) (hbase : base ≤ W.heap.size) :
    Calls Try.prog 64 #[v, .int .i64 i, .int .i64 (i + 1)] W fun e w' => ∃ v', e = .returned v' ∧ Kd.R k56 56 w' base (fun _ => True) v' (l.eraseIdx i.toNat) ∧ Below base W w' := by
  obtain ⟨g, c, rfl, hgb, hgl, cells, hcells⟩ := Kd.R_form HO (by omega)
  obtain ⟨k, rfl⟩ := Int.eq_ofNat_of_zero_le h0
  have hnc := (Kd.R_reads' HO).2.1
  have hcm := (Kd.R_reads' HO).2.2.2.1
  have hk : k < l.length := by omega
  generalize hn : l.length = n at *
  obtain ⟨m, rfl⟩ : ∃ m, n = m + 1 := ⟨n - 1, by omega⟩
  have HOH := Lib.hid HO
  have HN := Lib.hid hn
  clear HO hcells hn
  have d1 : ((k : Int) == (k : Int) + 1) = false := by simp; omega
  go_enter Try.func64, Try.ntmps64
  obtain ⟨A, hA, hA2⟩ : ∃ A : Addr, (if c = k + 1 then some (⟨g, 0, none⟩ : Addr) else some ⟨g, (k + 1) * 2, none⟩) = some A ∧ Hid (some A = if c = k + 1 then some ⟨g, 0, none⟩ else (some (⟨g, 0, none⟩ : Addr)).map (·.add ((k + 1) * k56.sz))) := by
    by_cases h : c = k + 1
    · exact ⟨⟨g, 0, none⟩, by rw [if_pos h], Lib.hid (by rw [if_pos h])⟩
    · refine ⟨⟨g, (k + 1) * 2, none⟩, by rw [if_neg h], Lib.hid ?_⟩
      rw [if_neg h]
      show some _ = some ((⟨g, 0, none⟩ : Addr).add ((k + 1) * 2))
      simp [Addr.add]
  have hkc : k ≤ c := by omega
  have hkm : k ≤ m := by omega
  have hk1 : k + 1 ≤ m + 1 := hk
  have hk2 : k + 1 ≤ c := by omega
  have hz1 : 0 ≤ (k : Int) + 1 := by omega
  have hz2 : (k : Int) + 1 ≤ ((m + 1 : Nat) : Int) := by omega
  go_wp2_with fail
  go_region_law (refine Kd.R_delete_step k56 (w0 := W.drew) base rfl (.tmp 22) (.tmp 25) 33 56 rfl Try.underlying33 (by kernel_rfl) (g := g) (n := m + 1) (c := c) (k := k) (A := some A) rfl rfl hA2.out (by omega) (Kd.R_drew HOH.out) hk (Below.refl _ _) (show base ≤ W.drew.heap.size from hbase) ?_; intro w1 hr1 hb1 hg1)
  all_goals
    have hr1' : Kd.R k56 56 w1 base (fun _ => True) (.slice (some ⟨g, 0, none⟩) m c) (l.eraseIdx k) := hr1
    obtain ⟨w2, hclr, hr2, hb2⟩ := clear_own hr1' (by omega)
    have HR2 := Lib.hid hr2
    have HB2 := Lib.hid (show Below base W w2 from (Below.drew (Below.refl base W)).trans (Below.trans hb1 hb2))
    clear hr1 hr1' hb1 hb2 hg1 hr2
    have hmc : m ≤ c := by omega
    have hmc1 : m + 1 ≤ c := by omega
    have hcm' : (c = m) = False := eq_false (by omega)
    go_wp2_with fail
    go_ret
    exact ⟨_, rfl, HR2.out, HB2.out⟩
def seq_Map_without.f (k : Nat) (l0_0 : List S56) (a1 : Int) : Option ((List S56) × Int) := (seq_Map_place.f k l0_0 a1).bind fun p => (if 0 ≤ p.1 then (if l0_0.length ≤ 1000000 then (if p.2 = true then (if p.1 < (l0_0.length : Int) then some (l0_0.eraseIdx p.1.toNat, p.1) else none) else some (l0_0, p.1)) else none) else none)
def Blk (w : World) (k : Nat) (cs : Array Value) (t : TypeId) : Prop := k < w.heap.size ∧ w.heap[k]? = some (.cells cs t (0, 0))
theorem Blk.below {w w' : World} {k : Nat} {cs : Array Value} {t : TypeId} (h : Blk w k cs t) (hb : Below w.heap.size w w') : Blk w' k cs t := ⟨Nat.lt_of_lt_of_le h.1 hb.size, (hb.block k h.1).trans h.2⟩
theorem Blk.cell {w : World} {k : Nat} {cs : Array Value} {t : TypeId} (h : Blk w k cs t) (j : Nat) : w.cell? ⟨k, j, none⟩ = cs[j]? := blk_cell h.2 j
theorem Blk.frozen {w : World} {k : Nat} {cs : Array Value} {t : TypeId} (h : Blk w k cs t) (j : Nat) : w.frozen? ⟨k, j, none⟩ = false := blk_frozen h.2 j
theorem Blk.new (w : World) (cs : Array Value) (t : TypeId) : Blk (w.alloc (.cells cs t)) w.heap.size cs t := ⟨by rw [World.size_alloc]; omega, by (show (w.heap.push _)[w.heap.size]? = _); exact Array.getElem?_push_size⟩
theorem Blk.alloc {w : World} {k : Nat} {cs : Array Value} {t : TypeId} (h : Blk w k cs t) (o : Obj) : Blk (w.alloc o) k cs t := h.below (below_alloc (Below.refl _ _) o)
theorem Blk.below' {w w' : World} {k b : Nat} {cs : Array Value} {t : TypeId} (h : Blk w k cs t) (hk : k < b) (hb : Below b w w') : Blk w' k cs t := ⟨Nat.lt_of_lt_of_le h.1 hb.size, (hb.block k hk).trans h.2⟩
theorem below_and {w w1 w2 : World} (h : Below w.heap.size w w1) (k : Below w1.heap.size w1 w2) : Below w.heap.size w w2 := h.trans (k.mono h.size)
set_option maxHeartbeats 2000000 in
set_option maxRecDepth 100000 in
theorem without_in (k : Nat) (A0_0 : Option Addr) (c0_0 : Nat) (l0_0 : List S56) (a1 at_ : Int) (is : Bool) (w : World) (hr0_0 : Kd.C k56 w A0_0 l0_0.length l0_0) (hc0_0 : l0_0.length ≤ c0_0) (hp : seq_Map_place.f k l0_0 a1 = some (at_, is))
    (h0 : 0 ≤ at_) (hl : l0_0.length ≤ 1000000) (hi : is = true → at_ < (l0_0.length : Int)) :
    Calls Try.prog 49 #[.agg #[.slice A0_0 l0_0.length c0_0], .int .u64 a1] w fun e w' => ∃ v0_ : Value, e = .returned (.tuple #[.agg #[v0_], .int .i64 at_]) ∧ Kd.R k56 56 w' w.heap.size (fun _ => True) v0_ (if is = true then l0_0.eraseIdx at_.toNat else l0_0) ∧ Below w.heap.size w w' := by
  have W2 : ∃ W, W = (w.alloc (.cells #[.slice A0_0 l0_0.length c0_0] 35)).alloc (.cells #[.slice none 0 0] 35) := ⟨_, rfl⟩
  obtain ⟨W, hW⟩ := W2
  have hsz : W.heap.size = w.heap.size + 2 := by rw [hW, World.size_alloc, World.size_alloc]
  have B0 : Blk W w.heap.size #[.slice A0_0 l0_0.length c0_0] 35 := by rw [hW]; exact (Blk.new w _ _).alloc _
  have B1 : Blk W (w.heap.size + 1) #[.slice none 0 0] 35 := by
    have := Blk.new (w.alloc (.cells #[.slice A0_0 l0_0.length c0_0] 35)) #[.slice none 0 0] 35
    rw [World.size_alloc] at this
    rw [hW]; exact this
  have BW : Below w.heap.size w W := by rw [hW]; exact below_alloc (below_alloc (Below.refl _ _) _) _
  have HC := Lib.hid (Kd.C_below hr0_0 BW)
  have HP := Lib.hid (seq_Map_place.calls k A0_0 c0_0 l0_0 a1 at_ is W HC.out hc0_0 hp)
  have B0 := Lib.hid B0
  have B1 := Lib.hid B1
  have BW := Lib.hid BW
  have HI := Lib.hid hi
  have HSZ := Lib.hid hsz
  have HL := Lib.hid hc0_0
  rw [hW] at HP
  clear hr0_0 hp hi hsz hc0_0
  go_enter Try.func49, Try.ntmps49
  go_wp2_with fail
  refine HP.out.mono ?_
  rw [← hW]
  clear HP hW
  rintro e w1 ⟨rfl, hb1⟩
  have C1 := Lib.hid (Kd.C_below HC.out hb1)
  have B01 := Lib.hid (B0.out.below hb1)
  have B11 := Lib.hid (B1.out.below hb1)
  have BW1 := Lib.hid (below_and BW.out hb1)
  clear hb1 HC B0 B1
  have hm1 := B01.out.cell 0
  have hlm : l0_0.length < 8796093022208 := by omega
  have HCL := Lib.hid (seq_Pair_30.calls A0_0 c0_0 l0_0 l0_0 w1 C1.out HL.out (by unfold seq_Pair_30.f; simp [hlm]))
  go_wp2_with fail
  refine HCL.out.mono ?_
  clear HCL
  rintro e w2 ⟨v, rfl, hr2, hb2⟩
  have B02 := Lib.hid (B01.out.below hb2)
  have B12 := Lib.hid (B11.out.below hb2)
  have BW2 := Lib.hid (below_and BW1.out hb2)
  have hs1 : w.heap.size ≤ w1.heap.size := BW1.out.size
  obtain ⟨Av, cv, rfl⟩ := Kd.R_slice hr2
  have K1 : w.heap.size + 1 < w1.heap.size := B11.out.1
  have hs12 : w1.heap.size ≤ w2.heap.size := hb2.size
  have R2 := Lib.hid hr2
  have hs2 : w.heap.size ≤ w2.heap.size := BW2.out.size
  clear hr2 hb2 B01 B11 hm1 C1
  cases is with
  | false =>
    have hm2 := B12.out.cell 0
    have hf2 := B12.out.frozen 0
    go_wp2_with fail
    refine bodyPost_ret (results_ct rfl _ _ (w.heap.size + 1) 35 #[.slice Av l0_0.length cv] (0, 0) _ rfl (blk_put B12.out.2 0 _ rfl) Try.underlying35 rfl rfl) rfl ?_
    exact ⟨_, rfl, Kd.R_set (Kd.R_lower R2.out hs1) B12.out.2 (by decide) _ _, Below.setCell BW2.out (Nat.le_succ _) _⟩
  | true =>
    have hi2 := HI.out rfl
    have HD := Lib.hid (delete_calls (.slice Av l0_0.length cv) l0_0 at_ w2 w1.heap.size R2.out h0 hi2 hl hs12)
    have hx1 : at_ + 1 < 9223372036854775808 := by omega
    have hx2 : -9223372036854775808 ≤ at_ + 1 := by omega
    go_wp2_with fail
    refine HD.out.mono ?_
    clear HD R2
    rintro e w3 ⟨v3, rfl, hr3, hb3⟩
    obtain ⟨A3, c3, rfl⟩ := Kd.R_slice hr3
    have B13 := Lib.hid (B12.out.below' K1 hb3)
    have BW3 := Lib.hid (BW2.out.trans (hb3.mono hs1))
    have R3 := Lib.hid (Kd.R_lower hr3 hs1)
    clear hr3 hb3 B12 B02 BW2
    have hm3 := B13.out.cell 0
    have hf3 := B13.out.frozen 0
    go_wp2_with fail
    refine bodyPost_ret (results_ct rfl _ _ (w.heap.size + 1) 35 #[.slice A3 (l0_0.eraseIdx at_.toNat).length c3] (0, 0) _ rfl (blk_put B13.out.2 0 _ rfl) Try.underlying35 rfl rfl) rfl ?_
    exact ⟨_, rfl, Kd.R_set R3.out B13.out.2 (by decide) _ _, Below.setCell BW3.out (Nat.le_succ _) _⟩
theorem seq_Map_without.calls (k : Nat) (A0_0 : Option Addr) (c0_0 : Nat) (l0_0 : List S56) (a1 : Int) (r1 : List S56) (r2 : Int) (w : World) (hr0_0 : Kd.C k56 w A0_0 l0_0.length l0_0) (hc0_0 : l0_0.length ≤ c0_0) (h : seq_Map_without.f k l0_0 a1 = some (r1, r2)) :
    Calls Try.prog 49 #[.agg #[.slice A0_0 l0_0.length c0_0], .int .u64 a1] w fun e w' => ∃ v0_ : Value, e = .returned (.tuple #[.agg #[v0_], .int .i64 r2]) ∧ Kd.R k56 56 w' w.heap.size (fun _ => True) v0_ r1 ∧ Below w.heap.size w w' := by
  unfold seq_Map_without.f at h
  obtain ⟨⟨at_, is⟩, hp, h⟩ := Option.bind_eq_some_iff.1 h
  dsimp only at h
  by_cases h0 : 0 ≤ at_
  · rw [if_pos h0] at h
    by_cases hl : l0_0.length ≤ 1000000
    · rw [if_pos hl] at h
      cases is with
      | false =>
        rw [if_neg (by decide)] at h
        injection h with h
        injection h with e1 e2
        subst e1 e2
        exact (without_in k A0_0 c0_0 l0_0 a1 at_ false w hr0_0 hc0_0 hp h0 hl (fun h => by cases h)).mono (fun _ _ h => h)
      | true =>
        rw [if_pos rfl] at h
        by_cases hi : at_ < (l0_0.length : Int)
        · rw [if_pos hi] at h
          injection h with h
          injection h with e1 e2
          subst e1 e2
          exact (without_in k A0_0 c0_0 l0_0 a1 at_ true w hr0_0 hc0_0 hp h0 hl (fun _ => hi)).mono (fun _ _ h => h)
        · rw [if_neg hi] at h
          cases h
    · rw [if_neg hl] at h
      cases h
  · rw [if_neg h0] at h
    cases h
end Go.Proofs.Ytiihjijmmephlaa.GHist
namespace Go.Proofs.Ytiihjijmmephlaa.GHist
open Go.RowKit Go.Proofs.YtiihjijmmephlaaW.PrintWords Go.Proofs.YtiihjijmmephlaaW.PrintLast Go.Proofs.YtiihjijmmephlaaW.PrintMore
attribute [local go_sem] max2_int min2_int max_two min_two max_three min_three max_four min_four   -- for this text's walks alone
set_option linter.unusedVariables false
set_option linter.unusedSimpArgs false
section
variable {P : Program}
theorem reps_app {α : Type} {R : α → List Value → Prop} {size : Nat} {ps qs : List α} {cs ds : List Value} (h : Reps R size ps cs) (k : Reps R size qs ds) : Reps R size (ps ++ qs) (cs ++ ds) := by
  refine ⟨by rw [List.length_append, h.1, k.1, List.length_append, Nat.add_mul], fun j q hq => ?_⟩
  rcases Nat.lt_or_ge j ps.length with hj | hj
  · rw [List.getElem?_append_left hj] at hq
    have h1 : j * size + size ≤ cs.length := by rw [h.1, ← Nat.succ_mul]; exact Nat.mul_le_mul_right _ hj
    have h2 := h.2 j q hq
    rw [List.drop_append_of_le_length (by omega), List.take_append_of_le_length (by rw [List.length_drop]; omega)]
    exact h2
  · rw [List.getElem?_append_right hj] at hq
    have h2 := k.2 _ q hq
    obtain ⟨i, rfl⟩ := Nat.exists_eq_add_of_le hj
    have e : (ps.length + i) * size = cs.length + i * size := by rw [h.1, Nat.add_mul]
    rw [e, ← List.drop_drop, List.drop_left]
    rwa [Nat.add_sub_cancel_left] at h2
theorem R_grow_step {α : Type} (d : Kd α) {Rr : α → List Value → Prop} {ops : Array Oper} {o : Oper} {a : Act} {Kc : Act → World → Prop} {Q : Exit → Act → World → Prop} {E : Prop} {W : World}
    (hgd : o.guard = none) (s x : Operand) (t e : TypeId) (z : Value) (bytes : Nat)
    (ho : o.op = .call { callee := .builtin .append, args := #[s, x], argTypes := #[t, t] })
    (ht : P.underlying t = some (.slice e)) (hinfo : (P.info? e).map (fun i => (i.zero, i.size, i.bytes)) = some (some z, d.sz, bytes)) (hz : z.cells.size = d.sz) (hs0 : 0 < d.sz) (hb0 : 0 < bytes)
    (A : Option Addr) (n c' : Nat) (xs ys : List α) (ad : Addr) (m c : Nat) (hs : a.eval s = .slice A n c') (hcap : A = none → c' = 0) (hfull : c' < n + m) (hx : a.eval x = .slice (some ad) m c)
    (HA : ReadsRow Rr d.sz W A n xs) (HN : ReadsRow Rr d.sz W (some ad) m ys) (hKM : ∀ w1 ok x cs, Rr x cs → d.M w1 W.heap.size ok x cs) (hl : (n + m) * bytes ≤ 140737488355328)
    (h : ∀ v1 w1, d.R e w1 W.heap.size (fun _ => True) v1 (xs ++ ys) → W.grownBy w1 none → Kc (a.put o.dst v1) w1) :
    if Region.wanted o (yielded ops a.tmps) = true then Oper.wp P o a W Kc Q else E := by
  obtain ⟨i0, hi, hzz⟩ := Option.map_eq_some_iff.1 hinfo
  simp only [Prod.mk.injEq] at hzz
  obtain ⟨hz0, hz1, hz2⟩ := hzz
  have hlen : n + m ≤ 140737488355328 := Nat.le_trans (Nat.le_mul_of_pos_right _ hb0) hl
  obtain ⟨news, hnr, hnc⟩ := ReadsRow.inner_ HN
  obtain ⟨olds, hor, hoc⟩ : ∃ olds, Reps Rr d.sz xs olds ∧ ∀ b, A = some b → ∀ j u, olds[j]? = some u → W.cell? (b.add j) = some u := by
    cases A with
    | some b =>
      obtain ⟨olds, h1, h2⟩ := ReadsRow.inner_ HA
      exact ⟨olds, h1, fun b' hb => by cases hb; exact h2⟩
    | none =>
      have hn : xs = [] := by
        rcases Nat.eq_zero_or_pos n with h0 | h0
        · exact List.eq_nil_of_length_eq_zero (HA.1.trans h0)
        · obtain ⟨_, h1, _⟩ := HA.2.2 h0
          cases h1
      subst hn
      exact ⟨[], Reps.none _ _, fun b hb => by cases hb⟩
  have hn0 : A = none → n = 0 ∧ c' = 0 := fun hA => ⟨(by
    rcases Nat.eq_zero_or_pos n with h0 | h0
    · exact h0
    · obtain ⟨_, h1, _⟩ := HA.2.2 h0
      rw [hA] at h1
      cases h1), hcap hA⟩
  have hone : ∀ u ∈ news, u.oneCell' = true := by
    intro u hu
    obtain ⟨q, hq, rfl⟩ := List.mem_iff_getElem.1 hu
    have hql : q / d.sz < ys.length := by
      rw [Nat.div_lt_iff_lt_mul hs0]
      rw [← hnr.1]
      exact hq
    have hc := hKM W (fun _ => True) _ _ (hnr.2 (q / d.sz) _ (List.getElem?_eq_getElem hql))
    refine d.K_one (d.K_of_M hc) _ ?_
    rw [List.mem_iff_getElem?]
    refine ⟨q % d.sz, ?_⟩
    rw [List.getElem?_take, if_pos (Nat.mod_lt _ hs0), List.getElem?_drop, Nat.mul_comm, Nat.div_add_mod, List.getElem?_eq_getElem hq]
  refine step_append_grows hgd s x t ho e i0 z d.sz bytes ht hi hz0 hz1 hz2 hz hs0 A n c' olds hs hn0 (by rw [hor.1, HA.1]) hoc ad m c news hx (by rw [hnr.1, HN.1]) hnc hone hfull (by simp only [maxLen]; omega) hl ?_
  intro v' w' hown hg
  refine h v' w' ⟨fun _ _ => trivial, olds ++ news, ?_, ?_⟩ hg
  · rw [List.length_append, HA.1, HN.1]
    exact hown
  · have := reps_app hor hnr
    exact this.imp_ (fun p cs hp => hKM _ _ _ _ hp)
end
def RPair (x : S56) (cs : List Value) : Prop := cs = [.int .u64 x.f0, .int .u64 x.f1]
theorem rpairM {w : World} {base : Nat} {ok : Nat → Prop} {x : S56} {cs : List Value} (h : RPair x cs) : k56.M w base ok x cs := by
  rw [h]
  exact k56_mkM _ _ _ x
theorem rr_pair {w : World} {A : Option Addr} {n : Nat} {xs : List S56} (h : Kd.C k56 w A n xs) : ReadsRow RPair 2 w A n xs :=
  ReadsRow.imp_ h (Below.refl _ _) (fun _ _ hp => k56_open hp)
theorem rr_one {w : World} {g : Nat} {x : S56} (h : w.heap[g]? = some (.cells #[.int .u64 x.f0, .int .u64 x.f1] 56 (0, 0))) : ReadsRow RPair 2 w (some ⟨g, 0, none⟩) 1 [x] := by
  refine ⟨rfl, by decide, fun _ => ⟨_, rfl, fun j p hp => ?_⟩⟩
  rcases j with _ | j
  · obtain rfl : x = p := by simpa using hp
    refine ⟨_, rfl, rfl, fun i u hu => ?_⟩
    rw [Nat.zero_mul, Nat.zero_add]
    exact World.news_of_block h i u hu
  · simp at hp
def seq_Map_with.f (k : Nat) (l0_0 : List S56) (a1_0 a1_1 : Int) : Option (List S56) := (seq_Map_without.f k l0_0 a1_0).bind fun p => (if 0 ≤ p.2 then (if p.2 ≤ (p.1.length : Int) then (if p.1.length ≤ 1000000 then some (p.1.take p.2.toNat ++ [⟨a1_0, a1_1⟩] ++ p.1.drop p.2.toNat) else none) else none) else none)
set_option maxHeartbeats 2000000 in
set_option maxRecDepth 100000 in
theorem with_in (k : Nat) (A0_0 : Option Addr) (c0_0 : Nat) (l0_0 l1 : List S56) (a1 : S56) (at_ : Nat) (w : World) (hr0_0 : Kd.C k56 w A0_0 l0_0.length l0_0) (hc0_0 : l0_0.length ≤ c0_0) (hp : seq_Map_without.f k l0_0 a1.f0 = some (l1, (at_ : Int)))
    (hat : at_ ≤ l1.length) (hl : l1.length ≤ 1000000) (r : List S56) (hres : l1.take at_ ++ [a1] ++ l1.drop at_ = r) :
    Calls Try.prog 48 #[.agg #[.slice A0_0 l0_0.length c0_0], .agg #[.int .u64 a1.f0, .int .u64 a1.f1]] w fun e w' => ∃ v0_ : Value, e = .returned (.agg #[v0_]) ∧ Kd.R k56 56 w' w.heap.size (fun _ => True) v0_ r ∧ Below w.heap.size w w' := by
  have HRES := Lib.hid hres
  clear hres
  have W2 : ∃ W, W = ((w.alloc (.cells #[.slice A0_0 l0_0.length c0_0] 35)).alloc (.cells #[.int .u64 a1.f0, .int .u64 a1.f1] 56)).alloc (.cells #[.slice none 0 0] 35) := ⟨_, rfl⟩
  obtain ⟨W, hW⟩ := W2
  have hsz : W.heap.size = w.heap.size + 3 := by rw [hW, World.size_alloc, World.size_alloc, World.size_alloc]
  have B0 : Blk W w.heap.size #[.slice A0_0 l0_0.length c0_0] 35 := by rw [hW]; exact ((Blk.new w _ _).alloc _).alloc _
  have B1 : Blk W (w.heap.size + 1) #[.int .u64 a1.f0, .int .u64 a1.f1] 56 := by
    have := (Blk.new (w.alloc (.cells #[.slice A0_0 l0_0.length c0_0] 35)) #[.int .u64 a1.f0, .int .u64 a1.f1] 56).alloc (.cells #[.slice none 0 0] 35)
    rw [World.size_alloc] at this
    rw [hW]; exact this
  have B2 : Blk W (w.heap.size + 2) #[.slice none 0 0] 35 := by
    have := Blk.new ((w.alloc (.cells #[.slice A0_0 l0_0.length c0_0] 35)).alloc (.cells #[.int .u64 a1.f0, .int .u64 a1.f1] 56)) #[.slice none 0 0] 35
    rw [World.size_alloc, World.size_alloc] at this
    rw [hW]; exact this
  have BW : Below w.heap.size w W := by rw [hW]; exact below_alloc (below_alloc (below_alloc (Below.refl _ _) _) _) _
  have HC := Lib.hid (Kd.C_below hr0_0 BW)
  have HP := Lib.hid (seq_Map_without.calls k A0_0 c0_0 l0_0 a1.f0 l1 at_ W HC.out hc0_0 hp)
  have B0 := Lib.hid B0
  have B1 := Lib.hid B1
  have B2 := Lib.hid B2
  have BW := Lib.hid BW
  have HSZ := Lib.hid hsz
  have HL := Lib.hid hc0_0
  rw [hW] at HP
  clear hr0_0 hp hsz hc0_0
  go_enter Try.func48, Try.ntmps48
  go_wp2_with fail
  refine HP.out.mono ?_
  rw [← hW]
  clear HP hW
  rintro e w1 ⟨v, rfl, hr1, hb1⟩
  obtain ⟨A1, c1, rfl⟩ := Kd.R_slice hr1
  have hlc : l1.length ≤ c1 := (Kd.R_reads' hr1).2.1
  have B01 := Lib.hid (B0.out.below hb1)
  have B11 := Lib.hid (B1.out.below hb1)
  have B21 := Lib.hid (B2.out.below hb1)
  have BW1 := Lib.hid (below_and BW.out hb1)
  have hsw : w.heap.size + 3 ≤ w1.heap.size := by have h1 := hb1.size; have h2 := HSZ.out; omega
  have R1 := Lib.hid hr1
  clear hr1 hb1 HC B0 B1 B2 BW
  have hm1 := B01.out.cell 0
  have hf1 := B01.out.frozen 0
  have hx1 := B11.out.cell 0
  have hx2 := B11.out.cell 1
  go_wp2_with fail
  have hw2 : ∃ x, x = w1.setCell ⟨w.heap.size, 0, none⟩ (.slice A1 l1.length c1) := ⟨_, rfl⟩
  obtain ⟨w2, hw2⟩ := hw2
  rw [← hw2]
  have R2 := Lib.hid (hw2 ▸ Kd.R_set R1.out B01.out.2 (by decide) 0 (.slice A1 l1.length c1))
  have B02 : Hid (Blk w2 w.heap.size #[.slice A1 l1.length c1] 35) := Lib.hid ⟨by rw [hw2]; exact Nat.lt_of_lt_of_le B01.out.1 (Below.setCell (p := ⟨w.heap.size, 0, none⟩) (Below.refl w.heap.size w1) (Nat.le_refl _) _).size, by rw [hw2]; exact blk_put B01.out.2 0 _ rfl⟩
  have BS2 : Below w.heap.size w1 w2 := by rw [hw2]; exact Below.setCell (p := ⟨w.heap.size, 0, none⟩) (Below.refl _ _) (Nat.le_refl _) _
  have B12 : Hid (Blk w2 (w.heap.size + 1) #[.int .u64 a1.f0, .int .u64 a1.f1] 56) := Lib.hid ⟨Nat.lt_of_lt_of_le B11.out.1 BS2.size, by rw [hw2]; exact blk_far B11.out.2 (by simp) _⟩
  have B22 : Hid (Blk w2 (w.heap.size + 2) #[.slice none 0 0] 35) := Lib.hid ⟨Nat.lt_of_lt_of_le B21.out.1 BS2.size, by rw [hw2]; exact blk_far B21.out.2 (by simp) _⟩
  have BW2 := Lib.hid (BW1.out.trans BS2)
  have hs2 : w.heap.size + 3 ≤ w2.heap.size := Nat.le_trans hsw BS2.size
  clear hw2 BS2 B01 B11 B21 BW1 R1 hm1 hf1 hx1 hx2 hsw
  obtain ⟨_, inner, ⟨hlen, hrow⟩, hr⟩ := R2.out
  rcases hrow with ⟨e, e0⟩ | ⟨g, cap, cur, e, hb, hg, hnc, hcm, hsz, htk⟩
  · injection e with e1 e2 e3
    subst e1 e3
    have hnil : l1 = [] := List.eq_nil_of_length_eq_zero e2
    subst hnil
    have hat0 : at_ = 0 := Nat.le_zero.1 hat
    subst hat0
    clear R2 hlen hr e0 e2 hlc hl hat
    have hm1 := B02.out.cell 0
    have hm2 := (B02.out.alloc (.cells #[.int .u64 a1.f0, .int .u64 a1.f1] 56)).cell 0
    have hx1 := B12.out.cell 0
    have hx2 := B12.out.cell 1
    have hW3 : ∃ x, x = (w2.alloc (.cells #[.int .u64 a1.f0, .int .u64 a1.f1] 56)).drew := ⟨_, rfl⟩
    obtain ⟨W3, hW3⟩ := hW3
    have hs3 : W3.heap.size = w2.heap.size + 1 := by rw [hW3]; simp [World.size_alloc]
    have D3 : Below w2.heap.size w2 W3 := by rw [hW3]; exact Below.drew (below_alloc (Below.refl _ _) _)
    have HN : Hid (ReadsRow RPair 2 W3 (some ⟨w2.heap.size, 0, none⟩) 1 [a1]) := Lib.hid (rr_one (by rw [hW3]; exact (Blk.new w2 _ _).2))
    have HALL : Hid (∀ v1 w3, Kd.R k56 56 w3 W3.heap.size (fun _ => True) v1 ([] ++ [a1]) → W3.grownBy w3 none → ∃ A3 c3, v1 = .slice A3 1 c3 ∧ w3.cell? ⟨w.heap.size, 0, none⟩ = some (.slice none 0 0) ∧
        Hid (Kd.R k56 56 w3 W3.heap.size (fun _ => True) v1 ([] ++ [a1])) ∧ Hid (∀ W : World, ReadsRow RPair 2 W none 0 []) ∧ Hid (W3.heap.size ≤ w3.heap.size) ∧
        Hid (∀ v2 w4, Kd.R k56 56 w4 W3.heap.size (fun _ => True) v2 ([] ++ [a1] ++ []) → Below W3.heap.size w3 w4 → ∃ A4 n4 c4, v2 = .slice A4 n4 c4 ∧
          w4.cell? ⟨w.heap.size + 1 + 1, 0, none⟩ = some (.slice none 0 0) ∧ w4.frozen? ⟨w.heap.size + 1 + 1, 0, none⟩ = false ∧ Hid (Kd.R k56 56 w4 w.heap.size (fun _ => True) v2 ([] ++ [a1] ++ [])) ∧ Hid (Blk w4 (w.heap.size + 2) #[.slice none 0 0] 35) ∧ Hid (Below w.heap.size w w4))) := Lib.hid (by
      intro v1 w3 hr3 hg3
      obtain ⟨A3, c3, rfl⟩ := Kd.R_slice hr3
      have b3 : Below W3.heap.size W3 w3 := Below.grown (Below.refl _ _) hg3 (Nat.le_refl _) (by intro k hk; cases hk)
      have b23 : Below w2.heap.size w2 w3 := below_and D3 b3
      refine ⟨_, _, rfl, (B02.out.below b23).cell 0, Lib.hid hr3, Lib.hid (fun _ => ⟨rfl, by decide, fun h => absurd h (Nat.lt_irrefl 0)⟩), Lib.hid b3.size, Lib.hid ?_⟩
      intro v2 w4 hr4 hb4
      obtain ⟨A4, c4, rfl⟩ := Kd.R_slice hr4
      have h34 : w2.heap.size ≤ W3.heap.size := by omega
      have h30 : w.heap.size ≤ W3.heap.size := by omega
      have b24 : Below w2.heap.size w2 w4 := b23.trans (hb4.mono h34)
      have b4 := B22.out.below b24
      exact ⟨_, _, _, rfl, b4.cell 0, b4.frozen 0, Lib.hid (Kd.R_lower hr4 h30), Lib.hid b4, Lib.hid (below_and BW2.out b24)⟩)
    have HA : Hid (∀ W : World, ReadsRow RPair 2 W none 0 []) := Lib.hid (fun _ => ⟨rfl, by decide, fun h => absurd h (Nat.lt_irrefl 0)⟩)
    clear B02 B12 BW2 D3 hs3
    rw [hW3] at HN HALL
    clear hW3
    go_region_law (first
      | (refine R_grow_step k56 rfl (.tmp 17) (.tmp 19) 33 56 (.agg #[.int .u64 0, .int .u64 0]) 16 rfl Try.underlying33 (by kernel_rfl) rfl (by decide) (by decide) none 0 0 [] [a1] ⟨w2.heap.size, 0, none⟩ 1 1 rfl (by intro h; rfl) (by decide) rfl (HA.out _) HN.out (fun _ _ _ _ h => rpairM h) (by decide) ?_; intro v1 w3 hr3 hg3; obtain ⟨A3, c3, rfl, hm3, HR3, HD3, HS4, HALL4⟩ := HALL.out v1 w3 hr3 hg3; clear hr3 hg3 HALL)
      | (refine Kd.R_append_rows_step k56 (w0 := w3) _ rfl (.tmp 20) (.tmp 24) 33 56 (.agg #[.int .u64 0, .int .u64 0]) 16 rfl Try.underlying33 (by kernel_rfl) rfl (by decide) (by decide) (.slice A3 1 c3) ([] ++ [a1]) [] none 0 0 (fun _ => True) (fun _ => False) rfl rfl (by first | exact HR3.out | exact Kd.R_drew HR3.out) (HD3.out _) (fun _ _ h => rpairM h) (by intro k hk; cases hk) (fun _ _ => trivial) (by first | exact Below.refl _ _ | exact Below.drew (Below.refl _ _)) HS4.out (by show (1 + 0) * 16 ≤ 140737488355328; decide) ?_; intro v2 w4 hr4 hb4 _ _; obtain ⟨A4, n4, c4, rfl, hy41, hy42, HR4, HB4, HW4⟩ := HALL4.out v2 w4 hr4 hb4; clear hr4 hb4 HALL4))
    all_goals go_wp2_with fail
    all_goals refine bodyPost_ret (results_cell_row rfl _ _ (w.heap.size + 2) 35 #[.slice A4 n4 c4] (0, 0) _ rfl (blk_put HB4.out.2 0 _ rfl) Try.underlying35 rfl rfl) rfl ?_
    all_goals exact ⟨_, rfl, by rw [← HRES.out]; exact Kd.R_set HR4.out HB4.out.2 (by decide) _ _, Below.setCell (p := ⟨w.heap.size + 1 + 1, 0, none⟩) HW4.out (by show w.heap.size ≤ w.heap.size + 1 + 1; omega) _⟩
  · injection e with e1 e2 e3
    subst e1 e3
    have R2' := Lib.hid (Kd.R_lower R2.out (show w.heap.size + 3 ≤ W.heap.size from Nat.le_of_eq HSZ.out.symm))
    have C2 := Lib.hid (Kd.R_reads' R2.out).2.2
    clear R2 hlen hr hb hg hcm hsz htk hlc
    have hm1 := B02.out.cell 0
    have hm2 := (B02.out.alloc (.cells #[.int .u64 a1.f0, .int .u64 a1.f1] 56)).cell 0
    have hx1 := B12.out.cell 0
    have hx2 := B12.out.cell 1
    have hatc : at_ ≤ c1 := by omega
    have ha2 : (at_ : Int) ≤ (l1.length : Int) := by omega
    obtain ⟨A, hA, hA2⟩ : ∃ A : Addr, (if c1 = at_ then some (⟨g, 0, none⟩ : Addr) else some ⟨g, at_ * 2, none⟩) = some A ∧ Hid (some A = if c1 = at_ then some ⟨g, 0, none⟩ else (some (⟨g, 0, none⟩ : Addr)).map (·.add (at_ * k56.sz))) := by
      by_cases h : c1 = at_
      · exact ⟨⟨g, 0, none⟩, by rw [if_pos h], Lib.hid (by rw [if_pos h])⟩
      · refine ⟨⟨g, at_ * 2, none⟩, by rw [if_neg h], Lib.hid ?_⟩
        rw [if_neg h]
        show some _ = some ((⟨g, 0, none⟩ : Addr).add (at_ * 2))
        simp [Addr.add]
    have hW3 : ∃ x, x = (w2.alloc (.cells #[.int .u64 a1.f0, .int .u64 a1.f1] 56)).drew := ⟨_, rfl⟩
    obtain ⟨W3, hW3⟩ := hW3
    have hs3 : W3.heap.size = w2.heap.size + 1 := by rw [hW3]; simp [World.size_alloc]
    have D3 : Below w2.heap.size w2 W3 := by rw [hW3]; exact Below.drew (below_alloc (Below.refl _ _) _)
    have HN : Hid (ReadsRow RPair 2 W3 (some ⟨w2.heap.size, 0, none⟩) 1 [a1]) := Lib.hid (rr_one (by rw [hW3]; exact (Blk.new w2 _ _).2))
    have HA : Hid (ReadsRow RPair 2 W3 (some ⟨g, 0, none⟩) at_ (l1.take at_)) := Lib.hid (by
      have := Kd.C_take (Kd.C_below C2.out D3) hat
      rw [List.length_take, Nat.min_eq_left hat] at this
      exact rr_pair this)
    have HALL : Hid (∀ v1 w3, Kd.R k56 56 w3 W3.heap.size (fun _ => True) v1 (l1.take at_ ++ [a1]) → W3.grownBy w3 none → ∃ A3 c3, v1 = .slice A3 (at_ + 1) c3 ∧ w3.cell? ⟨w.heap.size, 0, none⟩ = some (.slice (some ⟨g, 0, none⟩) l1.length c1) ∧
        Hid (Kd.R k56 56 w3 W3.heap.size (fun _ => True) v1 (l1.take at_ ++ [a1])) ∧ Hid (ReadsRow RPair 2 w3 (some A) (l1.length - at_) (l1.drop at_)) ∧ Hid (W3.heap.size ≤ w3.heap.size) ∧
        Hid (∀ v2 w4, Kd.R k56 56 w4 W3.heap.size (fun _ => True) v2 (l1.take at_ ++ [a1] ++ l1.drop at_) → Below W3.heap.size w3 w4 → ∃ A4 n4 c4, v2 = .slice A4 n4 c4 ∧
          w4.cell? ⟨w.heap.size + 1 + 1, 0, none⟩ = some (.slice none 0 0) ∧ w4.frozen? ⟨w.heap.size + 1 + 1, 0, none⟩ = false ∧ Hid (Kd.R k56 56 w4 w.heap.size (fun _ => True) v2 (l1.take at_ ++ [a1] ++ l1.drop at_)) ∧ Hid (Blk w4 (w.heap.size + 2) #[.slice none 0 0] 35) ∧ Hid (Below w.heap.size w w4))) := Lib.hid (by
      intro v1 w3 hr3 hg3
      obtain ⟨A3, c3, rfl⟩ := Kd.R_slice hr3
      have hlt1 : (l1.take at_ ++ [a1]).length = at_ + 1 := by rw [List.length_append, List.length_take, Nat.min_eq_left hat]; rfl
      rw [hlt1] at hr3
      rw [hlt1]
      have b3 : Below W3.heap.size W3 w3 := Below.grown (Below.refl _ _) hg3 (Nat.le_refl _) (by intro k hk; cases hk)
      have b23 : Below w2.heap.size w2 w3 := below_and D3 b3
      refine ⟨_, _, rfl, (B02.out.below b23).cell 0, Lib.hid hr3, Lib.hid ?_, Lib.hid b3.size, Lib.hid ?_⟩
      · have := Kd.C_drop (Kd.C_below C2.out b23) hat hnc
        rw [List.length_drop, ← hA2.out] at this
        exact rr_pair this
      · intro v2 w4 hr4 hb4
        obtain ⟨A4, c4, rfl⟩ := Kd.R_slice hr4
        have h34 : w2.heap.size ≤ W3.heap.size := by omega
        have h30 : w.heap.size ≤ W3.heap.size := by omega
        have b24 : Below w2.heap.size w2 w4 := b23.trans (hb4.mono h34)
        have b4 := B22.out.below b24
        exact ⟨_, _, _, rfl, b4.cell 0, b4.frozen 0, Lib.hid (Kd.R_lower hr4 h30), Lib.hid b4, Lib.hid (below_and BW2.out b24)⟩)
    have hlt1 : (l1.take at_ ++ [a1]).length = at_ + 1 := by rw [List.length_append, List.length_take, Nat.min_eq_left hat]; rfl
    have HLT := Lib.hid hlt1
    have HS3 := Lib.hid hs3
    clear C2 B02 B12 BW2 D3 hlt1 hs3
    rw [hW3] at HN HA HALL HS3
    clear hW3
    go_region_law (first
      | (refine R_grow_step k56 rfl (.tmp 17) (.tmp 19) 33 56 (.agg #[.int .u64 0, .int .u64 0]) 16 rfl Try.underlying33 (by kernel_rfl) rfl (by decide) (by decide) (some ⟨g, 0, none⟩) at_ at_ (l1.take at_) [a1] ⟨w2.heap.size, 0, none⟩ 1 1 rfl (by intro h; cases h) (by omega) rfl HA.out HN.out (fun _ _ _ _ h => rpairM h) (by omega) ?_; intro v1 w3 hr3 hg3; obtain ⟨A3, c3, rfl, hm3, HR3, HD3, HS4, HALL4⟩ := HALL.out v1 w3 hr3 hg3; clear hr3 hg3 HALL)
      | (refine Kd.R_append_rows_step k56 (w0 := w3) _ rfl (.tmp 20) (.tmp 24) 33 56 (.agg #[.int .u64 0, .int .u64 0]) 16 rfl Try.underlying33 (by kernel_rfl) rfl (by decide) (by decide) (.slice A3 (at_ + 1) c3) (l1.take at_ ++ [a1]) (l1.drop at_) (some A) (l1.length - at_) (c1 - at_) (fun _ => True) (fun _ => False) rfl rfl (by first | exact HR3.out | exact Kd.R_drew HR3.out) HD3.out (fun _ _ h => rpairM h) (by intro k hk; cases hk) (fun _ _ => trivial) (by first | exact Below.refl _ _ | exact Below.drew (Below.refl _ _)) HS4.out (by rw [HLT.out]; omega) ?_; intro v2 w4 hr4 hb4 _ _; obtain ⟨A4, n4, c4, rfl, hy41, hy42, HR4, HB4, HW4⟩ := HALL4.out v2 w4 hr4 hb4; clear hr4 hb4 HALL4))
    all_goals go_wp2_with fail
    all_goals refine bodyPost_ret (results_cell_row rfl _ _ (w.heap.size + 2) 35 #[.slice A4 n4 c4] (0, 0) _ rfl (blk_put HB4.out.2 0 _ rfl) Try.underlying35 rfl rfl) rfl ?_
    all_goals exact ⟨_, rfl, by rw [← HRES.out]; exact Kd.R_set HR4.out HB4.out.2 (by decide) _ _, Below.setCell (p := ⟨w.heap.size + 1 + 1, 0, none⟩) HW4.out (by show w.heap.size ≤ w.heap.size + 1 + 1; omega) _⟩
theorem seq_Map_with.calls (k : Nat) (A0_0 : Option Addr) (c0_0 : Nat) (l0_0 : List S56) (a1_0 a1_1 : Int) (r1 : List S56) (w : World) (hr0_0 : Kd.C k56 w A0_0 l0_0.length l0_0) (hc0_0 : l0_0.length ≤ c0_0) (h : seq_Map_with.f k l0_0 a1_0 a1_1 = some r1) :
    Calls Try.prog 48 #[.agg #[.slice A0_0 l0_0.length c0_0], .agg #[.int .u64 a1_0, .int .u64 a1_1]] w fun e w' => ∃ v0_ : Value, e = .returned (.agg #[v0_]) ∧ Kd.R k56 56 w' w.heap.size (fun _ => True) v0_ r1 ∧ Below w.heap.size w w' := by
  unfold seq_Map_with.f at h
  obtain ⟨⟨l1, at_⟩, hp, h⟩ := Option.bind_eq_some_iff.1 h
  dsimp only at h
  by_cases h0 : 0 ≤ at_
  · rw [if_pos h0] at h
    by_cases h1 : at_ ≤ (l1.length : Int)
    · rw [if_pos h1] at h
      by_cases hl : l1.length ≤ 1000000
      · rw [if_pos hl] at h
        injection h with h
        subst h
        obtain ⟨n, rfl⟩ := Int.eq_ofNat_of_zero_le h0
        exact with_in k A0_0 c0_0 l0_0 l1 ⟨a1_0, a1_1⟩ n w hr0_0 hc0_0 hp (by omega) hl _ rfl
      · rw [if_neg hl] at h
        cases h
    · rw [if_neg h1] at h
      cases h
  · rw [if_neg h0] at h
    cases h
def seq_Map_Pairs.f (l0_0 : List (S56)) : Option ((List (S56))) := (seq_Pair_30.f l0_0).bind fun t124 => (some t124)
set_option maxHeartbeats 8000000 in
set_option maxRecDepth 100000 in
theorem seq_Map_Pairs.calls (A0_0 : Option Addr) (c0_0 : Nat) (l0_0 : List (S56)) (r : List (S56)) (w : World) (hr0_0 : Kd.C k56 w A0_0 l0_0.length l0_0) (hc0_0 : l0_0.length ≤ c0_0) (h : seq_Map_Pairs.f l0_0 = some r) :
    Calls Try.prog 17 #[.agg #[.slice A0_0 l0_0.length c0_0]] w fun e w' => ∃ v0_ : Value, e = .returned (v0_) ∧ Kd.R k56 56 w' w.heap.size (fun _ => True) v0_ r ∧ Below w.heap.size w w' := by
  have hu35 := Try.underlying35
  have HR0_0 := Aside0.mk hr0_0
  have HC0_0 := Aside0.mk hc0_0
  clear hr0_0 hc0_0
  have HB := Aside0.mk (Below.refl w.heap.size w)
  have H : ((seq_Pair_30.f l0_0).bind fun t124 => (some t124)) = some r := h
  clear h
  replace H := Option.bind_eq_some_iff.mp H
  obtain ⟨t124, A20, H⟩ := H
  replace H : (some t124) = some r := H
  have A2 := Aside0.mk A20
  clear A20
  obtain rfl := Option.some.inj H
  go_enter Try.func17, Try.ntmps17
  go_wp2_with (first | ((with_reducible refine gate_dst (N := 1) rfl ?_); refine box_event ?hg (N := 1) ?hd (cs := #[.slice A0_0 l0_0.length c0_0]) (t := 35) ?hr ?_; (case hd => rfl); (case hg => rfl); (case hr => first | (go_simp; done) | (go_simp; rfl)); intro gb123 hg w3 hbox hb; have n0_ := Aside0.mk (below_step (by repeat (first | (with_reducible first | exact HB.out | apply below_alloc | apply pw_below_drewN | apply below_drew1) | exact HB.out)) hb); have n1_ := Aside0.mk (hbox); have n2_ := Aside0.mk ((by rw [hg]; exact (below_size (by repeat (first | (with_reducible first | exact HB.out | apply below_alloc | apply pw_below_drewN | apply below_drew1) | exact HB.out))) : w.heap.size ≤ gb123)); have n3_ := Aside0.mk ((by rw [hg]; exact (below_size (by repeat (first | (with_reducible first | exact HB.out | apply below_alloc | apply pw_below_drewN | apply below_drew1) | exact HB.out))) : w.heap.size ≤ gb123)); clear HB; have HB := n0_; have BK123 := n1_; have GW123 := n2_; have GE123 := n3_; clear n0_ n1_ n2_ n3_; clear hb hbox hg; have hcz4_0 : w3.cell? ⟨gb123, 0, none⟩ = some (.slice A0_0 l0_0.length c0_0) := (blk_cell BK123.out 0).trans rfl; have hfz4_0 := blk_frozen BK123.out 0) | ((with_reducible refine gate_callee (f := 30) rfl ?_); refine goesL_ (some 5) rfl rfl Try.func30 (by kernel_rfl) rfl #[.slice A0_0 l0_0.length c0_0] rfl (by (try simp only [List.map_toArray, List.map_cons, List.map_nil]); first | done | rfl | (simp only [List.length_drop, List.length_take]; rfl)) ?_; (with_reducible refine (seq_Pair_30.calls _ _ l0_0 t124 _ ?side1 ?side2 A2.out).mono ?_); (case side1 => repeat (first | exact (Kd.C_below HR0_0.out HB.out) | (with_reducible refine Kd.C_alloc ?_ _) | (with_reducible refine Kd.C_drewN ?_ _) | (with_reducible refine Kd.C_drew ?_))); (case side2 => exact HC0_0.out); rintro e w5 ⟨v125, rfl, ho0, hb⟩; refine ⟨_, rfl, ?_⟩; have n0_ := Aside0.mk (Kd.R_lower ho0 (below_size (by repeat (first | (with_reducible first | exact HB.out | apply below_alloc | apply pw_below_drewN | apply below_drew1 | refine below_set ?_ GE123.out) | exact HB.out)))); have n1_ := Aside0.mk (blk_below (g := gb123) (o := .cells #[.slice A0_0 l0_0.length c0_0] 35 (0, 0)) (by (with_reducible repeat (first | refine blk_drewN ?_ _ | refine blk_drew ?_ | refine blk_alloc ?_ _)); exact BK123.out) hb); have n2_ := Aside0.mk (below_step (by repeat (first | (with_reducible first | exact HB.out | apply below_alloc | apply pw_below_drewN | apply below_drew1 | refine below_set ?_ GE123.out) | exact HB.out)) hb); clear BK123; clear HB; have HO126 := n0_; have BK123 := n1_; have HB := n2_; clear n0_ n1_ n2_; (try clear hb); (try clear hb2); (try clear hk); (try clear hi); (try clear ho0)))
  go_ret
  exact ⟨_, by first | rfl | (simp [errW_none, errW_some] <;> rfl) | (simp [*, errW_none, errW_some] <;> rfl), by (with_reducible repeat (first | apply Kd.R_alloc | apply Kd.R_drewN | apply Kd.R_drew)); exact HO126.out, by repeat (first | (with_reducible first | exact HB.out | apply below_alloc | apply pw_below_drewN | apply below_drew1 | refine below_set ?_ GE123.out) | exact HB.out)⟩
def slices_Equal_uint64_uint64.l0 : Nat → List Int → List Int → Int → Int → Option (Bool)
  | 0, _, _, _, _ => none
  | k + 1, x0, x1, x12, x13 => if x13 < x12 then (if 0 ≤ x13 then (if x13 < (x0.length : Int) then (if x13 < (x1.length : Int) then (if (rd x0 x13) = (rd x1 x13) then (slices_Equal_uint64_uint64.l0 k x0 x1 x12 (wrap64 (x13 + 1))) else (some false)) else (none)) else (none)) else (none)) else (some true)
def slices_Equal_uint64_uint64.f (k : Nat) (l0 : List Int) (l1 : List Int) : Option (Bool) := if (l0.length : Int) = (l1.length : Int) then (slices_Equal_uint64_uint64.l0 k l0 l1 (l0.length : Int) 0) else (some false)
set_option maxHeartbeats 8000000 in
set_option maxRecDepth 100000 in
theorem slices_Equal_uint64_uint64.calls (k : Nat) (A0 : Option Addr) (c0 : Nat) (l0 : List Int) (A1 : Option Addr) (c1 : Nat) (l1 : List Int) (r : Bool) (w : World) (hr0 : Kd.C (Kd.int .u64) w A0 l0.length l0) (hc0 : l0.length ≤ c0) (hr1 : Kd.C (Kd.int .u64) w A1 l1.length l1) (hc1 : l1.length ≤ c1) (h : slices_Equal_uint64_uint64.f k l0 l1 = some r) :
    Calls Try.prog 56 #[.slice A0 l0.length c0, .slice A1 l1.length c1] w fun e w' => e = .returned (.bool r) ∧ Drawn0 w w' := by
  have HR0 := Aside0.mk hr0
  have HC0 := Aside0.mk hc0
  clear hr0 hc0
  have HR1 := Aside0.mk hr1
  have HC1 := Aside0.mk hc1
  clear hr1 hc1
  have H : (if (l0.length : Int) = (l1.length : Int) then (slices_Equal_uint64_uint64.l0 k l0 l1 (l0.length : Int) 0) else (some false)) = some r := h
  clear h
  by_cases c3 : (l0.length : Int) = (l1.length : Int)
  · rw [if_pos c3] at H
    have c3b0 : ((l0.length : Int) == (l1.length : Int)) = true := beq_iff_eq.mpr c3
    have c3b1 : ((l0.length : Int) != (l1.length : Int)) = false := bne_eq_false_iff_eq.mpr c3
    have c3b2 : (l0.length == l1.length) = true := by first | simpa using c3 | (simp at c3 ⊢; omega)
    clear c3
    have H' := Aside0.mk H
    clear H
    go_enter Try.func56, Try.ntmps56
    go_wp2
    repeat (go_quiet (fail); try go_wp2)
    go_loopg [13] k (fun kq v13 w' => ∃ (x13_1 : Int), v13 = .int .i64 x13_1 ∧ Aside0 (slices_Equal_uint64_uint64.l0 kq l0 l1 (l0.length : Int) x13_1 = some r) ∧ Aside0 (kq ≤ k) ∧ Drawn0 w w')
    case atStart => exact ⟨(0), (by first | rfl | (simp; done) | (simp [*]; done)), H', ⟨Nat.le_refl _⟩, by repeat (first | exact Drawn0.refl _ | apply Drawn0.step)⟩
    case round =>
      clear H'
      try clear c1
      try clear p2
      try clear c3
      try clear c3b0
      try clear c3b1
      try clear c3b2
      obtain ⟨x13_1, rfl, HA, HK1, ⟨m1, rfl⟩⟩ := hrel
      cases gk with
      | zero => exact absurd HA.out (by simp [slices_Equal_uint64_uint64.l0])
      | succ k1 =>
        have H := HA.out
        clear HA
        simp only [slices_Equal_uint64_uint64.l0] at H
        by_cases c4 : x13_1 < (l0.length : Int)
        · rw [if_pos c4] at H
          have c4b0 : decide (x13_1 < (l0.length : Int)) = true := decide_eq_true c4
          clear c4
          by_cases c5 : 0 ≤ x13_1
          · rw [if_pos c5] at H
            have c5b0 : decide (0 ≤ x13_1) = true := decide_eq_true c5
            clear c5
            by_cases c6 : x13_1 < (l0.length : Int)
            · rw [if_pos c6] at H
              have c6b0 : decide (x13_1 < (l0.length : Int)) = true := decide_eq_true c6
              clear c6
              by_cases c7 : x13_1 < (l1.length : Int)
              · rw [if_pos c7] at H
                have c7b0 : decide (x13_1 < (l1.length : Int)) = true := decide_eq_true c7
                clear c7
                by_cases c8 : (rd l0 x13_1) = (rd l1 x13_1)
                · rw [if_pos c8] at H
                  have c8b0 : ((rd l0 x13_1) == (rd l1 x13_1)) = true := beq_iff_eq.mpr c8
                  have c8b1 : ((rd l0 x13_1) != (rd l1 x13_1)) = false := bne_eq_false_iff_eq.mpr c8
                  clear c8
                  have H' := Aside0.mk H
                  clear H
                  have p127 : 0 ≤ (x13_1 : Int) := of_decide_eq_true (by first | (with_reducible assumption) | assumption)
                  have q127 : x13_1 < (l0.length : Int) := of_decide_eq_true (by first | (with_reducible assumption) | assumption)
                  obtain ⟨ad127, e127, hx127_0⟩ := Kd.at_int HR0.out x13_1 p127 q127
                  cases e127
                  replace p127 := eq_true p127
                  replace q127 := eq_true q127
                  have p128 : 0 ≤ (x13_1 : Int) := of_decide_eq_true (by first | (with_reducible assumption) | assumption)
                  have q128 : x13_1 < (l1.length : Int) := of_decide_eq_true (by first | (with_reducible assumption) | assumption)
                  obtain ⟨ad128, e128, hx128_0⟩ := Kd.at_int HR1.out x13_1 p128 q128
                  cases e128
                  replace p128 := eq_true p128
                  replace q128 := eq_true q128
                  go_wp2
                  repeat (go_quiet (fail); try go_wp2)
                  go_roundg k1
                  case measure => have := HK1.out; omega
                  case rel => exact ⟨(wrap64 (x13_1 + 1)), (by first | rfl | (simp; done) | (simp [*]; done)), H', ⟨by have := HK1.out; omega⟩, by repeat (first | exact Drawn0.refl _ | apply Drawn0.step)⟩
                · rw [if_neg c8] at H
                  have c8b0 : ((rd l0 x13_1) == (rd l1 x13_1)) = false := beq_eq_false_iff_ne.mpr c8
                  have c8b1 : ((rd l0 x13_1) != (rd l1 x13_1)) = true := bne_iff_ne.mpr c8
                  obtain rfl := Option.some.inj H
                  have p127 : 0 ≤ (x13_1 : Int) := of_decide_eq_true (by first | (with_reducible assumption) | assumption)
                  have q127 : x13_1 < (l0.length : Int) := of_decide_eq_true (by first | (with_reducible assumption) | assumption)
                  obtain ⟨ad127, e127, hx127_0⟩ := Kd.at_int HR0.out x13_1 p127 q127
                  cases e127
                  replace p127 := eq_true p127
                  replace q127 := eq_true q127
                  have p128 : 0 ≤ (x13_1 : Int) := of_decide_eq_true (by first | (with_reducible assumption) | assumption)
                  have q128 : x13_1 < (l1.length : Int) := of_decide_eq_true (by first | (with_reducible assumption) | assumption)
                  obtain ⟨ad128, e128, hx128_0⟩ := Kd.at_int HR1.out x13_1 p128 q128
                  cases e128
                  replace p128 := eq_true p128
                  replace q128 := eq_true q128
                  go_wp2
                  repeat (go_quiet (fail); try go_wp2)
                  go_ret
                  exact ⟨by first | rfl | (simp; done) | (simp [*]; done), by repeat (first | exact Drawn0.refl _ | apply Drawn0.step)⟩
              · rw [if_neg c7] at H
                exact absurd H (by simp)
            · rw [if_neg c6] at H
              exact absurd H (by simp)
          · rw [if_neg c5] at H
            exact absurd H (by simp)
        · rw [if_neg c4] at H
          have c4b0 : decide (x13_1 < (l0.length : Int)) = false := decide_eq_false c4
          clear c4
          obtain rfl := Option.some.inj H
          go_wp2
          repeat (go_quiet (fail); try go_wp2)
          go_ret
          exact ⟨by first | rfl | (simp; done) | (simp [*]; done), by repeat (first | exact Drawn0.refl _ | apply Drawn0.step)⟩
  · rw [if_neg c3] at H
    have c3b0 : ((l0.length : Int) == (l1.length : Int)) = false := beq_eq_false_iff_ne.mpr c3
    have c3b1 : ((l0.length : Int) != (l1.length : Int)) = true := bne_iff_ne.mpr c3
    have c3b2 : (l0.length == l1.length) = false := by first | simpa using c3 | (simp at c3 ⊢; omega)
    obtain rfl := Option.some.inj H
    go_enter Try.func56, Try.ntmps56
    go_wp2
    repeat (go_quiet (fail); try go_wp2)
    go_ret
    exact ⟨by first | rfl | (simp; done) | (simp [*]; done), by repeat (first | exact Drawn0.refl _ | apply Drawn0.step)⟩
def seq_Same.f (k : Nat) (a0_0 : Bool) (a0_1 : Bool) (a0_2 : Int) (l0_3 : List Int) (a1_0 : Bool) (a1_1 : Bool) (a1_2 : Int) (l1_3 : List Int) : Option (Bool) := if (a0_0 == a1_0) = true then (if (a0_1 == a1_1) = true then (if a0_2 = a1_2 then ((slices_Equal_uint64_uint64.f k l0_3 l1_3).bind fun t131 => (some t131)) else (some false)) else (some false)) else (some false)
set_option maxHeartbeats 8000000 in
set_option maxRecDepth 100000 in
theorem seq_Same.calls (k : Nat) (a0_0 : Bool) (a0_1 : Bool) (a0_2 : Int) (A0_3 : Option Addr) (c0_3 : Nat) (l0_3 : List Int) (a1_0 : Bool) (a1_1 : Bool) (a1_2 : Int) (A1_3 : Option Addr) (c1_3 : Nat) (l1_3 : List Int) (r : Bool) (w : World) (hr0_3 : Kd.C (Kd.int .u64) w A0_3 l0_3.length l0_3) (hc0_3 : l0_3.length ≤ c0_3) (hr1_3 : Kd.C (Kd.int .u64) w A1_3 l1_3.length l1_3) (hc1_3 : l1_3.length ≤ c1_3) (h : seq_Same.f k a0_0 a0_1 a0_2 l0_3 a1_0 a1_1 a1_2 l1_3 = some r) :
    Calls Try.prog 33 #[.agg #[.bool a0_0, .bool a0_1, .int .u64 a0_2, .slice A0_3 l0_3.length c0_3], .agg #[.bool a1_0, .bool a1_1, .int .u64 a1_2, .slice A1_3 l1_3.length c1_3]] w fun e w' => e = .returned (.bool r) ∧ Below w.heap.size w w' := by
  have hu46 := Try.underlying46
  have HR0_3 := Aside0.mk hr0_3
  have HC0_3 := Aside0.mk hc0_3
  clear hr0_3 hc0_3
  have HR1_3 := Aside0.mk hr1_3
  have HC1_3 := Aside0.mk hc1_3
  clear hr1_3 hc1_3
  have HB := Aside0.mk (Below.refl w.heap.size w)
  have H : (if (a0_0 == a1_0) = true then (if (a0_1 == a1_1) = true then (if a0_2 = a1_2 then ((slices_Equal_uint64_uint64.f k l0_3 l1_3).bind fun t131 => (some t131)) else (some false)) else (some false)) else (some false)) = some r := h
  clear h
  by_cases c3 : (a0_0 == a1_0) = true
  · rw [if_pos c3] at H
    have c3b0 : (a0_0 == a1_0) = true := c3
    (try (have c3b1 : decide (a0_0 = a1_0) = true := by simpa using c3))
    (try (have c3b2 : (a0_0 == a1_0) = true := by simpa using c3))
    clear c3
    by_cases c4 : (a0_1 == a1_1) = true
    · rw [if_pos c4] at H
      have c4b0 : (a0_1 == a1_1) = true := c4
      (try (have c4b1 : decide (a0_1 = a1_1) = true := by simpa using c4))
      (try (have c4b2 : (a0_1 == a1_1) = true := by simpa using c4))
      clear c4
      by_cases c5 : a0_2 = a1_2
      · rw [if_pos c5] at H
        have c5b0 : (a0_2 == a1_2) = true := beq_iff_eq.mpr c5
        have c5b1 : (a0_2 != a1_2) = false := bne_eq_false_iff_eq.mpr c5
        clear c5
        replace H := Option.bind_eq_some_iff.mp H
        obtain ⟨t131, A60, H⟩ := H
        replace H : (some t131) = some r := H
        have A6 := Aside0.mk A60
        clear A60
        obtain rfl := Option.some.inj H
        go_enter Try.func33, Try.ntmps33
        go_wp2_with (first | ((with_reducible refine gate_dst (N := 2) rfl ?_); refine box_event ?hg (N := 2) ?hd (cs := #[.bool a0_0, .bool a0_1, .int .u64 a0_2, .slice A0_3 l0_3.length c0_3]) (t := 46) ?hr ?_; (case hd => rfl); (case hg => rfl); (case hr => first | (go_simp; done) | (go_simp; rfl)); intro gb129 hg w7 hbox hb; have n0_ := Aside0.mk (below_step (by repeat (first | (with_reducible first | exact HB.out | apply below_alloc | apply pw_below_drewN | apply below_drew1) | exact HB.out)) hb); have n1_ := Aside0.mk (hbox); have n2_ := Aside0.mk ((by rw [hg]; exact (below_size (by repeat (first | (with_reducible first | exact HB.out | apply below_alloc | apply pw_below_drewN | apply below_drew1) | exact HB.out))) : w.heap.size ≤ gb129)); have n3_ := Aside0.mk ((by rw [hg]; exact (below_size (by repeat (first | (with_reducible first | exact HB.out | apply below_alloc | apply pw_below_drewN | apply below_drew1) | exact HB.out))) : w.heap.size ≤ gb129)); clear HB; have HB := n0_; have BK129 := n1_; have GW129 := n2_; have GE129 := n3_; clear n0_ n1_ n2_ n3_; clear hb hbox hg) | ((with_reducible refine gate_dst (N := 3) rfl ?_); refine box_event ?hg (N := 3) ?hd (cs := #[.bool a1_0, .bool a1_1, .int .u64 a1_2, .slice A1_3 l1_3.length c1_3]) (t := 46) ?hr ?_; (case hd => rfl); (case hg => rfl); (case hr => first | (go_simp; done) | (go_simp; rfl)); intro gb130 hg w8 hbox hb; have n0_ := Aside0.mk (blk_below (g := gb129) (o := .cells #[.bool a0_0, .bool a0_1, .int .u64 a0_2, .slice A0_3 l0_3.length c0_3] 46 (0, 0)) (by (with_reducible repeat (first | refine blk_drewN ?_ _ | refine blk_drew ?_ | refine blk_alloc ?_ _)); exact BK129.out) hb); have n1_ := Aside0.mk (below_step (by repeat (first | (with_reducible first | exact HB.out | apply below_alloc | apply pw_below_drewN | apply below_drew1 | refine below_set ?_ GE129.out) | exact HB.out)) hb); have n2_ := Aside0.mk (hbox); have n3_ := Aside0.mk ((by rw [hg]; exact (below_size (by repeat (first | (with_reducible first | exact HB.out | apply below_alloc | apply pw_below_drewN | apply below_drew1 | refine below_set ?_ GE129.out) | exact HB.out))) : w.heap.size ≤ gb130)); have n4_ := Aside0.mk ((by rw [hg]; exact (below_size (by repeat (first | (with_reducible first | exact HB.out | apply below_alloc | apply pw_below_drewN | apply below_drew1 | refine below_set ?_ GE129.out) | exact HB.out))) : w.heap.size ≤ gb130)); have n5_ := Aside0.mk ((by rw [hg]; exact Nat.ne_of_lt (blk_lt (g := gb129) (o := .cells #[.bool a0_0, .bool a0_1, .int .u64 a0_2, .slice A0_3 l0_3.length c0_3] 46 (0, 0)) (by (with_reducible repeat (first | refine blk_drewN ?_ _ | refine blk_drew ?_ | refine blk_alloc ?_ _)); exact BK129.out)) : gb129 ≠ gb130)); have n6_ := Aside0.mk ((by rw [hg]; exact Nat.ne_of_gt (blk_lt (g := gb129) (o := .cells #[.bool a0_0, .bool a0_1, .int .u64 a0_2, .slice A0_3 l0_3.length c0_3] 46 (0, 0)) (by (with_reducible repeat (first | refine blk_drewN ?_ _ | refine blk_drew ?_ | refine blk_alloc ?_ _)); exact BK129.out)) : gb130 ≠ gb129)); clear BK129; clear HB; have BK129 := n0_; have HB := n1_; have BK130 := n2_; have GW130 := n3_; have GE130 := n4_; have NB129_130 := n5_; have NB130_129 := n6_; clear n0_ n1_ n2_ n3_ n4_ n5_ n6_; clear hb hbox hg; have hnb9 := NB129_130.out; have hnc9 := NB130_129.out; have hcz10_0 : w8.cell? ⟨gb129, 0, none⟩ = some (.bool a0_0) := (blk_cell BK129.out 0).trans rfl; have hcz10_1 : w8.cell? ⟨gb129, 1, none⟩ = some (.bool a0_1) := (blk_cell BK129.out 1).trans rfl; have hcz10_2 : w8.cell? ⟨gb129, 2, none⟩ = some (.int .u64 a0_2) := (blk_cell BK129.out 2).trans rfl; have hcz10_3 : w8.cell? ⟨gb129, 3, none⟩ = some (.slice A0_3 l0_3.length c0_3) := (blk_cell BK129.out 3).trans rfl; have hfz10_0 := blk_frozen BK129.out 0; have hfz10_1 := blk_frozen BK129.out 1; have hfz10_2 := blk_frozen BK129.out 2; have hfz10_3 := blk_frozen BK129.out 3; have hcz11_0 : w8.cell? ⟨gb130, 0, none⟩ = some (.bool a1_0) := (blk_cell BK130.out 0).trans rfl; have hcz11_1 : w8.cell? ⟨gb130, 1, none⟩ = some (.bool a1_1) := (blk_cell BK130.out 1).trans rfl; have hcz11_2 : w8.cell? ⟨gb130, 2, none⟩ = some (.int .u64 a1_2) := (blk_cell BK130.out 2).trans rfl; have hcz11_3 : w8.cell? ⟨gb130, 3, none⟩ = some (.slice A1_3 l1_3.length c1_3) := (blk_cell BK130.out 3).trans rfl; have hfz11_0 := blk_frozen BK130.out 0; have hfz11_1 := blk_frozen BK130.out 1; have hfz11_2 := blk_frozen BK130.out 2; have hfz11_3 := blk_frozen BK130.out 3) | (go_at_call 56; (with_reducible refine (slices_Equal_uint64_uint64.calls k _ _ l0_3 _ _ l1_3 t131 _ ?side1 ?side2 ?side3 ?side4 A6.out).mono ?_); (case side1 => repeat (first | exact (Kd.C_below HR0_3.out HB.out) | (with_reducible refine Kd.C_alloc ?_ _) | (with_reducible refine Kd.C_drewN ?_ _) | (with_reducible refine Kd.C_drew ?_))); (case side2 => exact HC0_3.out); (case side3 => repeat (first | exact (Kd.C_below HR1_3.out HB.out) | (with_reducible refine Kd.C_alloc ?_ _) | (with_reducible refine Kd.C_drewN ?_ _) | (with_reducible refine Kd.C_drew ?_))); (case side4 => exact HC1_3.out); rintro e w' ⟨rfl, ⟨nd, rfl⟩⟩))
        go_ret
        exact ⟨by first | rfl | (simp [errW_none, errW_some] <;> rfl) | (simp [*, errW_none, errW_some] <;> rfl), by repeat (first | (with_reducible first | exact HB.out | apply below_alloc | apply pw_below_drewN | apply below_drew1 | refine below_set ?_ GE129.out | refine below_set ?_ GE130.out) | exact HB.out)⟩
      · rw [if_neg c5] at H
        have c5b0 : (a0_2 == a1_2) = false := beq_eq_false_iff_ne.mpr c5
        have c5b1 : (a0_2 != a1_2) = true := bne_iff_ne.mpr c5
        obtain rfl := Option.some.inj H
        go_enter Try.func33, Try.ntmps33
        go_wp2_with (first | ((with_reducible refine gate_dst (N := 2) rfl ?_); refine box_event ?hg (N := 2) ?hd (cs := #[.bool a0_0, .bool a0_1, .int .u64 a0_2, .slice A0_3 l0_3.length c0_3]) (t := 46) ?hr ?_; (case hd => rfl); (case hg => rfl); (case hr => first | (go_simp; done) | (go_simp; rfl)); intro gb129 hg w12 hbox hb; have n0_ := Aside0.mk (below_step (by repeat (first | (with_reducible first | exact HB.out | apply below_alloc | apply pw_below_drewN | apply below_drew1) | exact HB.out)) hb); have n1_ := Aside0.mk (hbox); have n2_ := Aside0.mk ((by rw [hg]; exact (below_size (by repeat (first | (with_reducible first | exact HB.out | apply below_alloc | apply pw_below_drewN | apply below_drew1) | exact HB.out))) : w.heap.size ≤ gb129)); have n3_ := Aside0.mk ((by rw [hg]; exact (below_size (by repeat (first | (with_reducible first | exact HB.out | apply below_alloc | apply pw_below_drewN | apply below_drew1) | exact HB.out))) : w.heap.size ≤ gb129)); clear HB; have HB := n0_; have BK129 := n1_; have GW129 := n2_; have GE129 := n3_; clear n0_ n1_ n2_ n3_; clear hb hbox hg) | ((with_reducible refine gate_dst (N := 3) rfl ?_); refine box_event ?hg (N := 3) ?hd (cs := #[.bool a1_0, .bool a1_1, .int .u64 a1_2, .slice A1_3 l1_3.length c1_3]) (t := 46) ?hr ?_; (case hd => rfl); (case hg => rfl); (case hr => first | (go_simp; done) | (go_simp; rfl)); intro gb130 hg w13 hbox hb; have n0_ := Aside0.mk (blk_below (g := gb129) (o := .cells #[.bool a0_0, .bool a0_1, .int .u64 a0_2, .slice A0_3 l0_3.length c0_3] 46 (0, 0)) (by (with_reducible repeat (first | refine blk_drewN ?_ _ | refine blk_drew ?_ | refine blk_alloc ?_ _)); exact BK129.out) hb); have n1_ := Aside0.mk (below_step (by repeat (first | (with_reducible first | exact HB.out | apply below_alloc | apply pw_below_drewN | apply below_drew1 | refine below_set ?_ GE129.out) | exact HB.out)) hb); have n2_ := Aside0.mk (hbox); have n3_ := Aside0.mk ((by rw [hg]; exact (below_size (by repeat (first | (with_reducible first | exact HB.out | apply below_alloc | apply pw_below_drewN | apply below_drew1 | refine below_set ?_ GE129.out) | exact HB.out))) : w.heap.size ≤ gb130)); have n4_ := Aside0.mk ((by rw [hg]; exact (below_size (by repeat (first | (with_reducible first | exact HB.out | apply below_alloc | apply pw_below_drewN | apply below_drew1 | refine below_set ?_ GE129.out) | exact HB.out))) : w.heap.size ≤ gb130)); have n5_ := Aside0.mk ((by rw [hg]; exact Nat.ne_of_lt (blk_lt (g := gb129) (o := .cells #[.bool a0_0, .bool a0_1, .int .u64 a0_2, .slice A0_3 l0_3.length c0_3] 46 (0, 0)) (by (with_reducible repeat (first | refine blk_drewN ?_ _ | refine blk_drew ?_ | refine blk_alloc ?_ _)); exact BK129.out)) : gb129 ≠ gb130)); have n6_ := Aside0.mk ((by rw [hg]; exact Nat.ne_of_gt (blk_lt (g := gb129) (o := .cells #[.bool a0_0, .bool a0_1, .int .u64 a0_2, .slice A0_3 l0_3.length c0_3] 46 (0, 0)) (by (with_reducible repeat (first | refine blk_drewN ?_ _ | refine blk_drew ?_ | refine blk_alloc ?_ _)); exact BK129.out)) : gb130 ≠ gb129)); clear BK129; clear HB; have BK129 := n0_; have HB := n1_; have BK130 := n2_; have GW130 := n3_; have GE130 := n4_; have NB129_130 := n5_; have NB130_129 := n6_; clear n0_ n1_ n2_ n3_ n4_ n5_ n6_; clear hb hbox hg; have hnb14 := NB129_130.out; have hnc14 := NB130_129.out; have hcz15_0 : w13.cell? ⟨gb129, 0, none⟩ = some (.bool a0_0) := (blk_cell BK129.out 0).trans rfl; have hcz15_1 : w13.cell? ⟨gb129, 1, none⟩ = some (.bool a0_1) := (blk_cell BK129.out 1).trans rfl; have hcz15_2 : w13.cell? ⟨gb129, 2, none⟩ = some (.int .u64 a0_2) := (blk_cell BK129.out 2).trans rfl; have hcz15_3 : w13.cell? ⟨gb129, 3, none⟩ = some (.slice A0_3 l0_3.length c0_3) := (blk_cell BK129.out 3).trans rfl; have hfz15_0 := blk_frozen BK129.out 0; have hfz15_1 := blk_frozen BK129.out 1; have hfz15_2 := blk_frozen BK129.out 2; have hfz15_3 := blk_frozen BK129.out 3; have hcz16_0 : w13.cell? ⟨gb130, 0, none⟩ = some (.bool a1_0) := (blk_cell BK130.out 0).trans rfl; have hcz16_1 : w13.cell? ⟨gb130, 1, none⟩ = some (.bool a1_1) := (blk_cell BK130.out 1).trans rfl; have hcz16_2 : w13.cell? ⟨gb130, 2, none⟩ = some (.int .u64 a1_2) := (blk_cell BK130.out 2).trans rfl; have hcz16_3 : w13.cell? ⟨gb130, 3, none⟩ = some (.slice A1_3 l1_3.length c1_3) := (blk_cell BK130.out 3).trans rfl; have hfz16_0 := blk_frozen BK130.out 0; have hfz16_1 := blk_frozen BK130.out 1; have hfz16_2 := blk_frozen BK130.out 2; have hfz16_3 := blk_frozen BK130.out 3))
        go_ret
        exact ⟨by first | rfl | (simp [errW_none, errW_some] <;> rfl) | (simp [*, errW_none, errW_some] <;> rfl), by repeat (first | (with_reducible first | exact HB.out | apply below_alloc | apply pw_below_drewN | apply below_drew1 | refine below_set ?_ GE129.out | refine below_set ?_ GE130.out) | exact HB.out)⟩
    · rw [if_neg c4] at H
      have c4b0 : (a0_1 == a1_1) = false := by simpa using c4
      (try (have c4b1 : decide (a0_1 = a1_1) = false := by simpa using c4))
      (try (have c4b2 : (a0_1 == a1_1) = false := by simpa using c4))
      (try (have c4b3 : ¬ (a0_1 = a1_1) := by simpa using c4))
      clear c4
      obtain rfl := Option.some.inj H
      go_enter Try.func33, Try.ntmps33
      go_wp2_with (first | ((with_reducible refine gate_dst (N := 2) rfl ?_); refine box_event ?hg (N := 2) ?hd (cs := #[.bool a0_0, .bool a0_1, .int .u64 a0_2, .slice A0_3 l0_3.length c0_3]) (t := 46) ?hr ?_; (case hd => rfl); (case hg => rfl); (case hr => first | (go_simp; done) | (go_simp; rfl)); intro gb129 hg w17 hbox hb; have n0_ := Aside0.mk (below_step (by repeat (first | (with_reducible first | exact HB.out | apply below_alloc | apply pw_below_drewN | apply below_drew1) | exact HB.out)) hb); have n1_ := Aside0.mk (hbox); have n2_ := Aside0.mk ((by rw [hg]; exact (below_size (by repeat (first | (with_reducible first | exact HB.out | apply below_alloc | apply pw_below_drewN | apply below_drew1) | exact HB.out))) : w.heap.size ≤ gb129)); have n3_ := Aside0.mk ((by rw [hg]; exact (below_size (by repeat (first | (with_reducible first | exact HB.out | apply below_alloc | apply pw_below_drewN | apply below_drew1) | exact HB.out))) : w.heap.size ≤ gb129)); clear HB; have HB := n0_; have BK129 := n1_; have GW129 := n2_; have GE129 := n3_; clear n0_ n1_ n2_ n3_; clear hb hbox hg) | ((with_reducible refine gate_dst (N := 3) rfl ?_); refine box_event ?hg (N := 3) ?hd (cs := #[.bool a1_0, .bool a1_1, .int .u64 a1_2, .slice A1_3 l1_3.length c1_3]) (t := 46) ?hr ?_; (case hd => rfl); (case hg => rfl); (case hr => first | (go_simp; done) | (go_simp; rfl)); intro gb130 hg w18 hbox hb; have n0_ := Aside0.mk (blk_below (g := gb129) (o := .cells #[.bool a0_0, .bool a0_1, .int .u64 a0_2, .slice A0_3 l0_3.length c0_3] 46 (0, 0)) (by (with_reducible repeat (first | refine blk_drewN ?_ _ | refine blk_drew ?_ | refine blk_alloc ?_ _)); exact BK129.out) hb); have n1_ := Aside0.mk (below_step (by repeat (first | (with_reducible first | exact HB.out | apply below_alloc | apply pw_below_drewN | apply below_drew1 | refine below_set ?_ GE129.out) | exact HB.out)) hb); have n2_ := Aside0.mk (hbox); have n3_ := Aside0.mk ((by rw [hg]; exact (below_size (by repeat (first | (with_reducible first | exact HB.out | apply below_alloc | apply pw_below_drewN | apply below_drew1 | refine below_set ?_ GE129.out) | exact HB.out))) : w.heap.size ≤ gb130)); have n4_ := Aside0.mk ((by rw [hg]; exact (below_size (by repeat (first | (with_reducible first | exact HB.out | apply below_alloc | apply pw_below_drewN | apply below_drew1 | refine below_set ?_ GE129.out) | exact HB.out))) : w.heap.size ≤ gb130)); have n5_ := Aside0.mk ((by rw [hg]; exact Nat.ne_of_lt (blk_lt (g := gb129) (o := .cells #[.bool a0_0, .bool a0_1, .int .u64 a0_2, .slice A0_3 l0_3.length c0_3] 46 (0, 0)) (by (with_reducible repeat (first | refine blk_drewN ?_ _ | refine blk_drew ?_ | refine blk_alloc ?_ _)); exact BK129.out)) : gb129 ≠ gb130)); have n6_ := Aside0.mk ((by rw [hg]; exact Nat.ne_of_gt (blk_lt (g := gb129) (o := .cells #[.bool a0_0, .bool a0_1, .int .u64 a0_2, .slice A0_3 l0_3.length c0_3] 46 (0, 0)) (by (with_reducible repeat (first | refine blk_drewN ?_ _ | refine blk_drew ?_ | refine blk_alloc ?_ _)); exact BK129.out)) : gb130 ≠ gb129)); clear BK129; clear HB; have BK129 := n0_; have HB := n1_; have BK130 := n2_; have GW130 := n3_; have GE130 := n4_; have NB129_130 := n5_; have NB130_129 := n6_; clear n0_ n1_ n2_ n3_ n4_ n5_ n6_; clear hb hbox hg; have hnb19 := NB129_130.out; have hnc19 := NB130_129.out; have hcz20_0 : w18.cell? ⟨gb129, 0, none⟩ = some (.bool a0_0) := (blk_cell BK129.out 0).trans rfl; have hcz20_1 : w18.cell? ⟨gb129, 1, none⟩ = some (.bool a0_1) := (blk_cell BK129.out 1).trans rfl; have hcz20_2 : w18.cell? ⟨gb129, 2, none⟩ = some (.int .u64 a0_2) := (blk_cell BK129.out 2).trans rfl; have hcz20_3 : w18.cell? ⟨gb129, 3, none⟩ = some (.slice A0_3 l0_3.length c0_3) := (blk_cell BK129.out 3).trans rfl; have hfz20_0 := blk_frozen BK129.out 0; have hfz20_1 := blk_frozen BK129.out 1; have hfz20_2 := blk_frozen BK129.out 2; have hfz20_3 := blk_frozen BK129.out 3; have hcz21_0 : w18.cell? ⟨gb130, 0, none⟩ = some (.bool a1_0) := (blk_cell BK130.out 0).trans rfl; have hcz21_1 : w18.cell? ⟨gb130, 1, none⟩ = some (.bool a1_1) := (blk_cell BK130.out 1).trans rfl; have hcz21_2 : w18.cell? ⟨gb130, 2, none⟩ = some (.int .u64 a1_2) := (blk_cell BK130.out 2).trans rfl; have hcz21_3 : w18.cell? ⟨gb130, 3, none⟩ = some (.slice A1_3 l1_3.length c1_3) := (blk_cell BK130.out 3).trans rfl; have hfz21_0 := blk_frozen BK130.out 0; have hfz21_1 := blk_frozen BK130.out 1; have hfz21_2 := blk_frozen BK130.out 2; have hfz21_3 := blk_frozen BK130.out 3))
      go_ret
      exact ⟨by first | rfl | (simp [errW_none, errW_some] <;> rfl) | (simp [*, errW_none, errW_some] <;> rfl), by repeat (first | (with_reducible first | exact HB.out | apply below_alloc | apply pw_below_drewN | apply below_drew1 | refine below_set ?_ GE129.out | refine below_set ?_ GE130.out) | exact HB.out)⟩
  · rw [if_neg c3] at H
    have c3b0 : (a0_0 == a1_0) = false := by simpa using c3
    (try (have c3b1 : decide (a0_0 = a1_0) = false := by simpa using c3))
    (try (have c3b2 : (a0_0 == a1_0) = false := by simpa using c3))
    (try (have c3b3 : ¬ (a0_0 = a1_0) := by simpa using c3))
    clear c3
    obtain rfl := Option.some.inj H
    go_enter Try.func33, Try.ntmps33
    go_wp2_with (first | ((with_reducible refine gate_dst (N := 2) rfl ?_); refine box_event ?hg (N := 2) ?hd (cs := #[.bool a0_0, .bool a0_1, .int .u64 a0_2, .slice A0_3 l0_3.length c0_3]) (t := 46) ?hr ?_; (case hd => rfl); (case hg => rfl); (case hr => first | (go_simp; done) | (go_simp; rfl)); intro gb129 hg w22 hbox hb; have n0_ := Aside0.mk (below_step (by repeat (first | (with_reducible first | exact HB.out | apply below_alloc | apply pw_below_drewN | apply below_drew1) | exact HB.out)) hb); have n1_ := Aside0.mk (hbox); have n2_ := Aside0.mk ((by rw [hg]; exact (below_size (by repeat (first | (with_reducible first | exact HB.out | apply below_alloc | apply pw_below_drewN | apply below_drew1) | exact HB.out))) : w.heap.size ≤ gb129)); have n3_ := Aside0.mk ((by rw [hg]; exact (below_size (by repeat (first | (with_reducible first | exact HB.out | apply below_alloc | apply pw_below_drewN | apply below_drew1) | exact HB.out))) : w.heap.size ≤ gb129)); clear HB; have HB := n0_; have BK129 := n1_; have GW129 := n2_; have GE129 := n3_; clear n0_ n1_ n2_ n3_; clear hb hbox hg) | ((with_reducible refine gate_dst (N := 3) rfl ?_); refine box_event ?hg (N := 3) ?hd (cs := #[.bool a1_0, .bool a1_1, .int .u64 a1_2, .slice A1_3 l1_3.length c1_3]) (t := 46) ?hr ?_; (case hd => rfl); (case hg => rfl); (case hr => first | (go_simp; done) | (go_simp; rfl)); intro gb130 hg w23 hbox hb; have n0_ := Aside0.mk (blk_below (g := gb129) (o := .cells #[.bool a0_0, .bool a0_1, .int .u64 a0_2, .slice A0_3 l0_3.length c0_3] 46 (0, 0)) (by (with_reducible repeat (first | refine blk_drewN ?_ _ | refine blk_drew ?_ | refine blk_alloc ?_ _)); exact BK129.out) hb); have n1_ := Aside0.mk (below_step (by repeat (first | (with_reducible first | exact HB.out | apply below_alloc | apply pw_below_drewN | apply below_drew1 | refine below_set ?_ GE129.out) | exact HB.out)) hb); have n2_ := Aside0.mk (hbox); have n3_ := Aside0.mk ((by rw [hg]; exact (below_size (by repeat (first | (with_reducible first | exact HB.out | apply below_alloc | apply pw_below_drewN | apply below_drew1 | refine below_set ?_ GE129.out) | exact HB.out))) : w.heap.size ≤ gb130)); have n4_ := Aside0.mk ((by rw [hg]; exact (below_size (by repeat (first | (with_reducible first | exact HB.out | apply below_alloc | apply pw_below_drewN | apply below_drew1 | refine below_set ?_ GE129.out) | exact HB.out))) : w.heap.size ≤ gb130)); have n5_ := Aside0.mk ((by rw [hg]; exact Nat.ne_of_lt (blk_lt (g := gb129) (o := .cells #[.bool a0_0, .bool a0_1, .int .u64 a0_2, .slice A0_3 l0_3.length c0_3] 46 (0, 0)) (by (with_reducible repeat (first | refine blk_drewN ?_ _ | refine blk_drew ?_ | refine blk_alloc ?_ _)); exact BK129.out)) : gb129 ≠ gb130)); have n6_ := Aside0.mk ((by rw [hg]; exact Nat.ne_of_gt (blk_lt (g := gb129) (o := .cells #[.bool a0_0, .bool a0_1, .int .u64 a0_2, .slice A0_3 l0_3.length c0_3] 46 (0, 0)) (by (with_reducible repeat (first | refine blk_drewN ?_ _ | refine blk_drew ?_ | refine blk_alloc ?_ _)); exact BK129.out)) : gb130 ≠ gb129)); clear BK129; clear HB; have BK129 := n0_; have HB := n1_; have BK130 := n2_; have GW130 := n3_; have GE130 := n4_; have NB129_130 := n5_; have NB130_129 := n6_; clear n0_ n1_ n2_ n3_ n4_ n5_ n6_; clear hb hbox hg; have hnb24 := NB129_130.out; have hnc24 := NB130_129.out; have hcz25_0 : w23.cell? ⟨gb129, 0, none⟩ = some (.bool a0_0) := (blk_cell BK129.out 0).trans rfl; have hcz25_1 : w23.cell? ⟨gb129, 1, none⟩ = some (.bool a0_1) := (blk_cell BK129.out 1).trans rfl; have hcz25_2 : w23.cell? ⟨gb129, 2, none⟩ = some (.int .u64 a0_2) := (blk_cell BK129.out 2).trans rfl; have hcz25_3 : w23.cell? ⟨gb129, 3, none⟩ = some (.slice A0_3 l0_3.length c0_3) := (blk_cell BK129.out 3).trans rfl; have hfz25_0 := blk_frozen BK129.out 0; have hfz25_1 := blk_frozen BK129.out 1; have hfz25_2 := blk_frozen BK129.out 2; have hfz25_3 := blk_frozen BK129.out 3; have hcz26_0 : w23.cell? ⟨gb130, 0, none⟩ = some (.bool a1_0) := (blk_cell BK130.out 0).trans rfl; have hcz26_1 : w23.cell? ⟨gb130, 1, none⟩ = some (.bool a1_1) := (blk_cell BK130.out 1).trans rfl; have hcz26_2 : w23.cell? ⟨gb130, 2, none⟩ = some (.int .u64 a1_2) := (blk_cell BK130.out 2).trans rfl; have hcz26_3 : w23.cell? ⟨gb130, 3, none⟩ = some (.slice A1_3 l1_3.length c1_3) := (blk_cell BK130.out 3).trans rfl; have hfz26_0 := blk_frozen BK130.out 0; have hfz26_1 := blk_frozen BK130.out 1; have hfz26_2 := blk_frozen BK130.out 2; have hfz26_3 := blk_frozen BK130.out 3))
    go_ret
    exact ⟨by first | rfl | (simp [errW_none, errW_some] <;> rfl) | (simp [*, errW_none, errW_some] <;> rfl), by repeat (first | (with_reducible first | exact HB.out | apply below_alloc | apply pw_below_drewN | apply below_drew1 | refine below_set ?_ GE129.out | refine below_set ?_ GE130.out) | exact HB.out)⟩
end Go.Proofs.Ytiihjijmmephlaa.GHist
namespace Go.Proofs.Ytiihjijmmephlaa.GHist
open Go.RowKit Go.Proofs.YtiihjijmmephlaaW.PrintWords Go.Proofs.YtiihjijmmephlaaW.PrintLast Go.Proofs.YtiihjijmmephlaaW.PrintMore
attribute [local go_sem] max2_int min2_int max_two min_two max_three min_three max_four min_four   -- for this text's walks alone
set_option linter.unusedVariables false
set_option linter.unusedSimpArgs false
mutual
def stepstoneref07_With.l0 : Nat → List (S61) → List (S61) → Bool → Int → Int → Int → Option ((List (S61)))
  | 0, _, _, _, _, _, _ => none
  | k + 1, x0, x5, x6, x7, x133000, x133001 => if x7 < (x0.length : Int) then (if 0 ≤ x7 then (if ((rd_T61 x0 x7).f0) ≥ x133000 then (stepstoneref07_With.j1 k x0 x5 x6 x7 (!x6) x133000 x133001) else (stepstoneref07_With.j1 k x0 x5 x6 x7 false x133000 x133001)) else (none)) else (if x6 = true then (some x5) else (if x5.length < 8796093022208 then (some (x5 ++ [(⟨x133000, x133001⟩ : S61)])) else (none)))
def stepstoneref07_With.j1 : Nat → List (S61) → List (S61) → Bool → Int → Bool → Int → Int → Option ((List (S61)))
  | 0, _, _, _, _, _, _, _ => none
  | k + 1, x0, x5, x6, x7, x25, x133000, x133001 => if x25 = true then (if x5.length < 8796093022208 then ((some (x5 ++ [(⟨x133000, x133001⟩ : S61)] : List (S61))).bind fun y137 => (if 0 ≤ x7 then (if x7 < (x0.length : Int) then (if ((rd_T61 x0 x7).f0) = x133000 then (stepstoneref07_With.l0 k x0 y137 true (wrap64 (x7 + 1)) x133000 x133001) else (if y137.length < 8796093022208 then (stepstoneref07_With.l0 k x0 (y137 ++ [(⟨(rd_T61 x0 x7).f0, (rd_T61 x0 x7).f1⟩ : S61)]) true (wrap64 (x7 + 1)) x133000 x133001) else (none))) else (none)) else (none))) else (none)) else (if 0 ≤ x7 then (if x7 < (x0.length : Int) then (if ((rd_T61 x0 x7).f0) = x133000 then (stepstoneref07_With.l0 k x0 x5 x6 (wrap64 (x7 + 1)) x133000 x133001) else (if x5.length < 8796093022208 then (stepstoneref07_With.l0 k x0 (x5 ++ [(⟨(rd_T61 x0 x7).f0, (rd_T61 x0 x7).f1⟩ : S61)]) x6 (wrap64 (x7 + 1)) x133000 x133001) else (none))) else (none)) else (none))
end
def stepstoneref07_With.f (k : Nat) (l0 : List (S61)) (a1_0 : Int) (a1_1 : Int) : Option ((List (S61))) := stepstoneref07_With.l0 k l0 ([] : List (S61)) false 0 a1_0 a1_1
set_option maxHeartbeats 8000000 in
set_option maxRecDepth 100000 in
theorem stepstoneref07_With.calls (k : Nat) (A0 : Option Addr) (c0 : Nat) (l0 : List (S61)) (a1_0 : Int) (a1_1 : Int) (r : List (S61)) (w : World) (hr0 : Kd.C k61 w A0 l0.length l0) (hc0 : l0.length ≤ c0) (h : stepstoneref07_With.f k l0 a1_0 a1_1 = some r) :
    Calls Try.prog 54 #[.slice A0 l0.length c0, .agg #[.int .u64 a1_0, .int .u64 a1_1]] w fun e w' => ∃ v0_ : Value, e = .returned (v0_) ∧ Kd.R k61 61 w' w.heap.size (fun _ => True) v0_ r ∧ Below w.heap.size w w' := by
  have hu61 := Try.underlying61
  have HR0 := Aside0.mk hr0
  have HC0 := Aside0.mk hc0
  clear hr0 hc0
  have HB := Aside0.mk (Below.refl w.heap.size w)
  have H : (stepstoneref07_With.l0 k l0 ([] : List (S61)) false 0 a1_0 a1_1) = some r := h
  clear h
  have H' := Aside0.mk H
  clear H
  go_enter Try.func54, Try.ntmps54
  go_wp2_with (first | ((with_reducible refine gate_dst (N := 3) rfl ?_); refine box_event ?hg (N := 3) ?hd (cs := #[.int .u64 a1_0, .int .u64 a1_1]) (t := 61) ?hr ?_; (case hd => rfl); (case hg => rfl); (case hr => first | (go_simp; done) | (go_simp; rfl)); intro gb132 hg w3 hbox hb; have n0_ := Aside0.mk (below_step (by repeat (first | (with_reducible first | exact HB.out | apply below_alloc | apply pw_below_drewN | apply below_drew1) | exact HB.out)) hb); have n1_ := Aside0.mk (hbox); have n2_ := Aside0.mk ((by rw [hg]; exact (below_size (by repeat (first | (with_reducible first | exact HB.out | apply below_alloc | apply pw_below_drewN | apply below_drew1) | exact HB.out))) : w.heap.size ≤ gb132)); have n3_ := Aside0.mk ((by rw [hg]; exact (below_size (by repeat (first | (with_reducible first | exact HB.out | apply below_alloc | apply pw_below_drewN | apply below_drew1) | exact HB.out))) : w.heap.size ≤ gb132)); clear HB; have HB := n0_; have BK132 := n1_; have GW132 := n2_; have GE132 := n3_; clear n0_ n1_ n2_ n3_; clear hb hbox hg))
  repeat (go_quiet (first | ((with_reducible refine gate_dst (N := 3) rfl ?_); refine box_event ?hg (N := 3) ?hd (cs := #[.int .u64 a1_0, .int .u64 a1_1]) (t := 61) ?hr ?_; (case hd => rfl); (case hg => rfl); (case hr => first | (go_simp; done) | (go_simp; rfl)); intro gb132 hg w3 hbox hb; have n0_ := Aside0.mk (below_step (by repeat (first | (with_reducible first | exact HB.out | apply below_alloc | apply pw_below_drewN | apply below_drew1) | exact HB.out)) hb); have n1_ := Aside0.mk (hbox); have n2_ := Aside0.mk ((by rw [hg]; exact (below_size (by repeat (first | (with_reducible first | exact HB.out | apply below_alloc | apply pw_below_drewN | apply below_drew1) | exact HB.out))) : w.heap.size ≤ gb132)); have n3_ := Aside0.mk ((by rw [hg]; exact (below_size (by repeat (first | (with_reducible first | exact HB.out | apply below_alloc | apply pw_below_drewN | apply below_drew1) | exact HB.out))) : w.heap.size ≤ gb132)); clear HB; have HB := n0_; have BK132 := n1_; have GW132 := n2_; have GE132 := n3_; clear n0_ n1_ n2_ n3_; clear hb hbox hg)); try go_wp2_with (first | ((with_reducible refine gate_dst (N := 3) rfl ?_); refine box_event ?hg (N := 3) ?hd (cs := #[.int .u64 a1_0, .int .u64 a1_1]) (t := 61) ?hr ?_; (case hd => rfl); (case hg => rfl); (case hr => first | (go_simp; done) | (go_simp; rfl)); intro gb132 hg w3 hbox hb; have n0_ := Aside0.mk (below_step (by repeat (first | (with_reducible first | exact HB.out | apply below_alloc | apply pw_below_drewN | apply below_drew1) | exact HB.out)) hb); have n1_ := Aside0.mk (hbox); have n2_ := Aside0.mk ((by rw [hg]; exact (below_size (by repeat (first | (with_reducible first | exact HB.out | apply below_alloc | apply pw_below_drewN | apply below_drew1) | exact HB.out))) : w.heap.size ≤ gb132)); have n3_ := Aside0.mk ((by rw [hg]; exact (below_size (by repeat (first | (with_reducible first | exact HB.out | apply below_alloc | apply pw_below_drewN | apply below_drew1) | exact HB.out))) : w.heap.size ≤ gb132)); clear HB; have HB := n0_; have BK132 := n1_; have GW132 := n2_; have GE132 := n3_; clear n0_ n1_ n2_ n3_; clear hb hbox hg)))
  go_loopg [5, 6, 7] k (fun kq v5 v6 v7 w' => ∃ (x5_1 : List (S61)) (x6_1 : Bool) (x7_1 : Int), v6 = .bool x6_1 ∧ v7 = .int .i64 x7_1 ∧ Aside0 (stepstoneref07_With.l0 kq l0 x5_1 x6_1 x7_1 a1_0 a1_1 = some r) ∧ Aside0 (kq ≤ k) ∧ Aside0 (Kd.R k61 61 w' w.heap.size (fun k_ => k_ ≠ gb132) v5 x5_1) ∧ Aside0 (w'.heap[gb132]? = some (.cells #[.int .u64 a1_0, .int .u64 a1_1] 61 (0, 0))) ∧ Aside0 (Below w.heap.size w w'))
  case atStart => exact ⟨(([] : List (S61))), (false), (0), (by first | rfl | (simp; done) | (simp [*]; done)), (by first | rfl | (simp; done) | (simp [*]; done)), H', ⟨Nat.le_refl _⟩, ⟨by first | exact Kd.R_nil _ _ _ _ _ | exact Kd.N_nil _ _ _ _ _ | exact Kd.V_nil _ _ _ _ _ | exact Kd.Q_nil _ _ _ _ _ | exact Kd.S_nil _ _ _ _ _⟩, ⟨by (with_reducible repeat (first | refine blk_drewN ?_ _ | refine blk_drew ?_ | refine blk_alloc ?_ _)); exact BK132.out⟩, ⟨by repeat (first | (with_reducible first | exact HB.out | apply below_alloc | apply pw_below_drewN | apply below_drew1 | refine below_set ?_ GE132.out) | exact HB.out)⟩⟩
  case round =>
    clear H'
    try clear p2
    obtain ⟨x5_1, x6_1, x7_1, rfl, rfl, HA, HK1, HO_5, BK132, HB⟩ := hrel
    cases gk with
    | zero => exact absurd HA.out (by simp [stepstoneref07_With.l0])
    | succ k1 =>
      have H := HA.out
      clear HA
      simp only [stepstoneref07_With.l0] at H
      by_cases c4 : x7_1 < (l0.length : Int)
      · rw [if_pos c4] at H
        have c4b0 : decide (x7_1 < (l0.length : Int)) = true := decide_eq_true c4
        clear c4
        have HC5 := Aside0.mk H
        clear H
        go_upto_region 6 with (fail)
        repeat (go_quiet (fail); go_upto_region 6 with (fail))
        go_cut [25] (fun v25 wc => ∃ (kq : Nat) (x25_4 : Bool), v25 = .bool x25_4 ∧ Aside0 (stepstoneref07_With.j1 kq l0 x5_1 x6_1 x7_1 x25_4 a1_0 a1_1 = some r) ∧ Aside0 (kq ≤ k1) ∧ Aside0 (Kd.R k61 61 wc w.heap.size (fun k_ => k_ ≠ gb132) u5 x5_1) ∧ Aside0 (wc.heap[gb132]? = some (.cells #[.int .u64 a1_0, .int .u64 a1_1] 61 (0, 0))) ∧ Aside0 (Below w.heap.size w wc))
        case first =>
          have H := HC5.out
          clear HC5
          by_cases c6 : 0 ≤ x7_1
          · rw [if_pos c6] at H
            have c6b0 : decide (0 ≤ x7_1) = true := decide_eq_true c6
            clear c6
            (first | rw [c6b0] | (simp only [i64_w, i32_w]; rw [c6b0]) | skip)
            by_cases c7 : ((rd_T61 l0 x7_1).f0) ≥ a1_0
            · rw [if_pos c7] at H
              have c7b0 : decide (a1_0 ≤ ((rd_T61 l0 x7_1).f0)) = true := decide_eq_true c7
              clear c7
              have H' := Aside0.mk H
              clear H
              have p136 : 0 ≤ (x7_1 : Int) := of_decide_eq_true (by first | (with_reducible assumption) | assumption)
              have q136 : x7_1 < (l0.length : Int) := of_decide_eq_true (by first | (with_reducible assumption) | assumption)
              obtain ⟨ad136, e136, hx136_0, hx136_1⟩ := at_T61 HR0.out x7_1 p136 q136
              cases e136
              replace hx136_0 := (HB.out.cell (World.block_lt_of_cell? w _ hx136_0)).trans hx136_0
              replace hx136_1 := (HB.out.cell (World.block_lt_of_cell? w _ hx136_1)).trans hx136_1
              replace p136 := eq_true p136
              replace q136 := eq_true q136
              have hcz8_0 : wr.cell? ⟨gb132, 0, none⟩ = some (.int .u64 a1_0) := (blk_cell BK132.out 0).trans rfl
              have hcz8_1 : wr.cell? ⟨gb132, 1, none⟩ = some (.int .u64 a1_1) := (blk_cell BK132.out 1).trans rfl
              have hfz8_0 := blk_frozen BK132.out 0
              have hfz8_1 := blk_frozen BK132.out 1
              go_wp2
              repeat (go_quiet (fail); try go_wp2)
              go_meet
              case rel => exact ⟨_, (!x6_1), (by first | rfl | (simp; done) | (simp [*]; done)), H', ⟨by have := HK1.out; first | omega | exact Nat.le_refl _⟩, ⟨by (with_reducible repeat (first | apply Kd.R_alloc | apply Kd.R_drewN | apply Kd.R_drew)); exact HO_5.out⟩, ⟨by (with_reducible repeat (first | refine blk_drewN ?_ _ | refine blk_drew ?_ | refine blk_alloc ?_ _)); exact BK132.out⟩, ⟨by repeat (first | (with_reducible first | exact HB.out | apply below_alloc | apply pw_below_drewN | apply below_drew1 | refine below_set ?_ GE132.out) | exact HB.out)⟩⟩
            · rw [if_neg c7] at H
              have c7b0 : decide (a1_0 ≤ ((rd_T61 l0 x7_1).f0)) = false := decide_eq_false c7
              clear c7
              have H' := Aside0.mk H
              clear H
              have p136 : 0 ≤ (x7_1 : Int) := of_decide_eq_true (by first | (with_reducible assumption) | assumption)
              have q136 : x7_1 < (l0.length : Int) := of_decide_eq_true (by first | (with_reducible assumption) | assumption)
              obtain ⟨ad136, e136, hx136_0, hx136_1⟩ := at_T61 HR0.out x7_1 p136 q136
              cases e136
              replace hx136_0 := (HB.out.cell (World.block_lt_of_cell? w _ hx136_0)).trans hx136_0
              replace hx136_1 := (HB.out.cell (World.block_lt_of_cell? w _ hx136_1)).trans hx136_1
              replace p136 := eq_true p136
              replace q136 := eq_true q136
              have hcz9_0 : wr.cell? ⟨gb132, 0, none⟩ = some (.int .u64 a1_0) := (blk_cell BK132.out 0).trans rfl
              have hcz9_1 : wr.cell? ⟨gb132, 1, none⟩ = some (.int .u64 a1_1) := (blk_cell BK132.out 1).trans rfl
              have hfz9_0 := blk_frozen BK132.out 0
              have hfz9_1 := blk_frozen BK132.out 1
              go_wp2
              repeat (go_quiet (fail); try go_wp2)
              go_meet
              case rel => exact ⟨_, (false), (by first | rfl | (simp; done) | (simp [*]; done)), H', ⟨by have := HK1.out; first | omega | exact Nat.le_refl _⟩, ⟨by (with_reducible repeat (first | apply Kd.R_alloc | apply Kd.R_drewN | apply Kd.R_drew)); exact HO_5.out⟩, ⟨by (with_reducible repeat (first | refine blk_drewN ?_ _ | refine blk_drew ?_ | refine blk_alloc ?_ _)); exact BK132.out⟩, ⟨by repeat (first | (with_reducible first | exact HB.out | apply below_alloc | apply pw_below_drewN | apply below_drew1 | refine below_set ?_ GE132.out) | exact HB.out)⟩⟩
          · rw [if_neg c6] at H
            exact absurd H (by simp)
        case rest =>
          clear HC5
          try clear p1
          try clear q1
          try clear hx1
          try clear p2
          try clear c4
          try clear c4b0
          try clear c5
          try clear c6
          try clear c6b0
          try clear c7
          try clear c7b0
          try clear hcz8_0
          try clear hcz8_1
          try clear hcz9_0
          try clear hcz9_1
          try clear hfz8_0
          try clear hfz8_1
          try clear hfz9_0
          try clear hfz9_1
          try clear hx136_0
          try clear hx136_1
          try clear p136
          try clear p2
          try clear q136
          obtain ⟨kq, x25_4, rfl, HA, HJ4, HO_5, BK132, HB⟩ := hcut
          cases kq with
          | zero => exact absurd HA.out (by simp [stepstoneref07_With.j1])
          | succ kj4 =>
            have H := HA.out
            clear HA
            simp only [stepstoneref07_With.j1] at H
            by_cases c10 : x25_4 = true
            · subst c10
              have H1 : (if x5_1.length < 8796093022208 then ((some (x5_1 ++ [(⟨a1_0, a1_1⟩ : S61)] : List (S61))).bind fun y137 => (if 0 ≤ x7_1 then (if x7_1 < (l0.length : Int) then (if ((rd_T61 l0 x7_1).f0) = a1_0 then (stepstoneref07_With.l0 kj4 l0 y137 true (wrap64 (x7_1 + 1)) a1_0 a1_1) else (if y137.length < 8796093022208 then (stepstoneref07_With.l0 kj4 l0 (y137 ++ [(⟨(rd_T61 l0 x7_1).f0, (rd_T61 l0 x7_1).f1⟩ : S61)]) true (wrap64 (x7_1 + 1)) a1_0 a1_1) else (none))) else (none)) else (none))) else (none)) = some r := by rw [if_pos rfl] at H; exact H
              clear H
              have H := H1
              clear H1
              by_cases c11 : x5_1.length < 8796093022208
              · rw [if_pos c11] at H
                have LMc11 := Aside0.mk c11
                clear c11
                obtain ⟨y137, hy137⟩ : ∃ y_ : List (S61), y_ = (x5_1 ++ [(⟨a1_0, a1_1⟩ : S61)]) := ⟨_, rfl⟩
                replace H : (if 0 ≤ x7_1 then (if x7_1 < (l0.length : Int) then (if ((rd_T61 l0 x7_1).f0) = a1_0 then (stepstoneref07_With.l0 kj4 l0 y137 true (wrap64 (x7_1 + 1)) a1_0 a1_1) else (if y137.length < 8796093022208 then (stepstoneref07_With.l0 kj4 l0 (y137 ++ [(⟨(rd_T61 l0 x7_1).f0, (rd_T61 l0 x7_1).f1⟩ : S61)]) true (wrap64 (x7_1 + 1)) a1_0 a1_1) else (none))) else (none)) else (none)) = some r := by first | (rw [hy137]; with_reducible exact H) | (have H2_ := (Option.bind_some _ _).symm.trans H; rw [hy137]; with_reducible exact H2_) | (have H2_ := (Option.bind_some _ _).symm.trans H; with_reducible exact H2_) | with_reducible exact H | (rw [hy137]; exact H) | exact H
                have Ny137 := Aside0.mk hy137
                clear hy137
                by_cases c12 : 0 ≤ x7_1
                · rw [if_pos c12] at H
                  have c12b0 : decide (0 ≤ x7_1) = true := decide_eq_true c12
                  clear c12
                  by_cases c13 : x7_1 < (l0.length : Int)
                  · rw [if_pos c13] at H
                    have c13b0 : decide (x7_1 < (l0.length : Int)) = true := decide_eq_true c13
                    clear c13
                    by_cases c14 : ((rd_T61 l0 x7_1).f0) = a1_0
                    · rw [if_pos c14] at H
                      have c14b0 : (((rd_T61 l0 x7_1).f0) == a1_0) = true := beq_iff_eq.mpr c14
                      have c14b1 : (((rd_T61 l0 x7_1).f0) != a1_0) = false := bne_eq_false_iff_eq.mpr c14
                      clear c14
                      have H' := Aside0.mk H
                      clear H
                      have hcz15_0 : wc.cell? ⟨gb132, 0, none⟩ = some (.int .u64 a1_0) := (blk_cell BK132.out 0).trans rfl
                      have hcz15_1 : wc.cell? ⟨gb132, 1, none⟩ = some (.int .u64 a1_1) := (blk_cell BK132.out 1).trans rfl
                      have hfz15_0 := blk_frozen BK132.out 0
                      have hfz15_1 := blk_frozen BK132.out 1
                      go_wp2_with (first | ((with_reducible refine gate_builtin (b := .append) (xs := #[.tmp 26, .tmp 28]) rfl ?_); at_builtin; refine Kd.R_append k61 (w0 := w) w.heap.size rfl (.tmp 26) (.tmp 28) 31 61 (.agg #[(.int .u64 0), (.int .u64 0)]) 16 rfl Try.underlying31 info61 rfl (by decide) (by omega) u5 x5_1 (⟨a1_0, a1_1⟩ : S61) [.int .u64 a1_0, .int .u64 a1_1] (fun k_ => k_ ≠ gb132) (fun _ => False) rfl rfl ?aP (fun _ hk => hk.elim) ?aF ?aO ?aB ?aS ?aL ?_; (case aP => exact k61_mkM _ _ _ (⟨a1_0, a1_1⟩ : S61)); (case aB => exact (by repeat (first | (with_reducible first | exact HB.out | apply below_alloc | apply pw_below_drewN | apply below_drew1 | refine below_set ?_ GE132.out) | exact HB.out))); (case aF => exact (fun k_ hk => Kd.freshB (g := gb132) (o := .cells #[.int .u64 a1_0, .int .u64 a1_1] 61 (0, 0)) (by (with_reducible repeat (first | refine blk_drewN ?_ _ | refine blk_drew ?_ | refine blk_alloc ?_ _)); exact BK132.out) k_ hk)); (case aO => exact (by (with_reducible repeat (first | apply Kd.R_alloc | apply Kd.R_drewN | apply Kd.R_drew)); exact HO_5.out)); (case aS => exact (below_size (by repeat (first | (with_reducible first | exact HB.out | apply below_alloc | apply pw_below_drewN | apply below_drew1 | refine below_set ?_ GE132.out) | exact HB.out)))); (case aL => have := LMc11.out; omega); intro v138 w16 ho hb hg hat; rw [← Ny137.out] at ho; have n0_ := Aside0.mk (blk_grown (g := gb132) (o := .cells #[.int .u64 a1_0, .int .u64 a1_1] 61 (0, 0)) (by (with_reducible repeat (first | refine blk_drewN ?_ _ | refine blk_drew ?_ | refine blk_alloc ?_ _)); exact BK132.out) hg (Kd.R_away HO_5.out (fun _ hk => hk))); have n1_ := Aside0.mk (hb); have n2_ := Aside0.mk (ho); clear BK132; clear HB; clear HO_5; have BK132 := n0_; have HB := n1_; have HO139 := n2_; clear n0_ n1_ n2_; clear ho hb hg hat; have p140 : 0 ≤ (x7_1 : Int) := of_decide_eq_true (by first | (with_reducible assumption) | assumption); have q140 : x7_1 < (l0.length : Int) := of_decide_eq_true (by first | (with_reducible assumption) | assumption); obtain ⟨ad140, e140, hx140_0, hx140_1⟩ := at_T61 HR0.out x7_1 p140 q140; cases e140; replace hx140_0 := (HB.out.cell (World.block_lt_of_cell? w _ hx140_0)).trans hx140_0; replace hx140_1 := (HB.out.cell (World.block_lt_of_cell? w _ hx140_1)).trans hx140_1; replace p140 := eq_true p140; replace q140 := eq_true q140; have hcz17_0 : w16.cell? ⟨gb132, 0, none⟩ = some (.int .u64 a1_0) := (blk_cell BK132.out 0).trans rfl; have hcz17_1 : w16.cell? ⟨gb132, 1, none⟩ = some (.int .u64 a1_1) := (blk_cell BK132.out 1).trans rfl; have hfz17_0 := blk_frozen BK132.out 0; have hfz17_1 := blk_frozen BK132.out 1))
                      repeat (go_quiet (first | ((with_reducible refine gate_builtin (b := .append) (xs := #[.tmp 26, .tmp 28]) rfl ?_); at_builtin; refine Kd.R_append k61 (w0 := w) w.heap.size rfl (.tmp 26) (.tmp 28) 31 61 (.agg #[(.int .u64 0), (.int .u64 0)]) 16 rfl Try.underlying31 info61 rfl (by decide) (by omega) u5 x5_1 (⟨a1_0, a1_1⟩ : S61) [.int .u64 a1_0, .int .u64 a1_1] (fun k_ => k_ ≠ gb132) (fun _ => False) rfl rfl ?aP (fun _ hk => hk.elim) ?aF ?aO ?aB ?aS ?aL ?_; (case aP => exact k61_mkM _ _ _ (⟨a1_0, a1_1⟩ : S61)); (case aB => exact (by repeat (first | (with_reducible first | exact HB.out | apply below_alloc | apply pw_below_drewN | apply below_drew1 | refine below_set ?_ GE132.out) | exact HB.out))); (case aF => exact (fun k_ hk => Kd.freshB (g := gb132) (o := .cells #[.int .u64 a1_0, .int .u64 a1_1] 61 (0, 0)) (by (with_reducible repeat (first | refine blk_drewN ?_ _ | refine blk_drew ?_ | refine blk_alloc ?_ _)); exact BK132.out) k_ hk)); (case aO => exact (by (with_reducible repeat (first | apply Kd.R_alloc | apply Kd.R_drewN | apply Kd.R_drew)); exact HO_5.out)); (case aS => exact (below_size (by repeat (first | (with_reducible first | exact HB.out | apply below_alloc | apply pw_below_drewN | apply below_drew1 | refine below_set ?_ GE132.out) | exact HB.out)))); (case aL => have := LMc11.out; omega); intro v138 w16 ho hb hg hat; rw [← Ny137.out] at ho; have n0_ := Aside0.mk (blk_grown (g := gb132) (o := .cells #[.int .u64 a1_0, .int .u64 a1_1] 61 (0, 0)) (by (with_reducible repeat (first | refine blk_drewN ?_ _ | refine blk_drew ?_ | refine blk_alloc ?_ _)); exact BK132.out) hg (Kd.R_away HO_5.out (fun _ hk => hk))); have n1_ := Aside0.mk (hb); have n2_ := Aside0.mk (ho); clear BK132; clear HB; clear HO_5; have BK132 := n0_; have HB := n1_; have HO139 := n2_; clear n0_ n1_ n2_; clear ho hb hg hat; have p140 : 0 ≤ (x7_1 : Int) := of_decide_eq_true (by first | (with_reducible assumption) | assumption); have q140 : x7_1 < (l0.length : Int) := of_decide_eq_true (by first | (with_reducible assumption) | assumption); obtain ⟨ad140, e140, hx140_0, hx140_1⟩ := at_T61 HR0.out x7_1 p140 q140; cases e140; replace hx140_0 := (HB.out.cell (World.block_lt_of_cell? w _ hx140_0)).trans hx140_0; replace hx140_1 := (HB.out.cell (World.block_lt_of_cell? w _ hx140_1)).trans hx140_1; replace p140 := eq_true p140; replace q140 := eq_true q140; have hcz17_0 : w16.cell? ⟨gb132, 0, none⟩ = some (.int .u64 a1_0) := (blk_cell BK132.out 0).trans rfl; have hcz17_1 : w16.cell? ⟨gb132, 1, none⟩ = some (.int .u64 a1_1) := (blk_cell BK132.out 1).trans rfl; have hfz17_0 := blk_frozen BK132.out 0; have hfz17_1 := blk_frozen BK132.out 1)); try go_wp2_with (first | ((with_reducible refine gate_builtin (b := .append) (xs := #[.tmp 26, .tmp 28]) rfl ?_); at_builtin; refine Kd.R_append k61 (w0 := w) w.heap.size rfl (.tmp 26) (.tmp 28) 31 61 (.agg #[(.int .u64 0), (.int .u64 0)]) 16 rfl Try.underlying31 info61 rfl (by decide) (by omega) u5 x5_1 (⟨a1_0, a1_1⟩ : S61) [.int .u64 a1_0, .int .u64 a1_1] (fun k_ => k_ ≠ gb132) (fun _ => False) rfl rfl ?aP (fun _ hk => hk.elim) ?aF ?aO ?aB ?aS ?aL ?_; (case aP => exact k61_mkM _ _ _ (⟨a1_0, a1_1⟩ : S61)); (case aB => exact (by repeat (first | (with_reducible first | exact HB.out | apply below_alloc | apply pw_below_drewN | apply below_drew1 | refine below_set ?_ GE132.out) | exact HB.out))); (case aF => exact (fun k_ hk => Kd.freshB (g := gb132) (o := .cells #[.int .u64 a1_0, .int .u64 a1_1] 61 (0, 0)) (by (with_reducible repeat (first | refine blk_drewN ?_ _ | refine blk_drew ?_ | refine blk_alloc ?_ _)); exact BK132.out) k_ hk)); (case aO => exact (by (with_reducible repeat (first | apply Kd.R_alloc | apply Kd.R_drewN | apply Kd.R_drew)); exact HO_5.out)); (case aS => exact (below_size (by repeat (first | (with_reducible first | exact HB.out | apply below_alloc | apply pw_below_drewN | apply below_drew1 | refine below_set ?_ GE132.out) | exact HB.out)))); (case aL => have := LMc11.out; omega); intro v138 w16 ho hb hg hat; rw [← Ny137.out] at ho; have n0_ := Aside0.mk (blk_grown (g := gb132) (o := .cells #[.int .u64 a1_0, .int .u64 a1_1] 61 (0, 0)) (by (with_reducible repeat (first | refine blk_drewN ?_ _ | refine blk_drew ?_ | refine blk_alloc ?_ _)); exact BK132.out) hg (Kd.R_away HO_5.out (fun _ hk => hk))); have n1_ := Aside0.mk (hb); have n2_ := Aside0.mk (ho); clear BK132; clear HB; clear HO_5; have BK132 := n0_; have HB := n1_; have HO139 := n2_; clear n0_ n1_ n2_; clear ho hb hg hat; have p140 : 0 ≤ (x7_1 : Int) := of_decide_eq_true (by first | (with_reducible assumption) | assumption); have q140 : x7_1 < (l0.length : Int) := of_decide_eq_true (by first | (with_reducible assumption) | assumption); obtain ⟨ad140, e140, hx140_0, hx140_1⟩ := at_T61 HR0.out x7_1 p140 q140; cases e140; replace hx140_0 := (HB.out.cell (World.block_lt_of_cell? w _ hx140_0)).trans hx140_0; replace hx140_1 := (HB.out.cell (World.block_lt_of_cell? w _ hx140_1)).trans hx140_1; replace p140 := eq_true p140; replace q140 := eq_true q140; have hcz17_0 : w16.cell? ⟨gb132, 0, none⟩ = some (.int .u64 a1_0) := (blk_cell BK132.out 0).trans rfl; have hcz17_1 : w16.cell? ⟨gb132, 1, none⟩ = some (.int .u64 a1_1) := (blk_cell BK132.out 1).trans rfl; have hfz17_0 := blk_frozen BK132.out 0; have hfz17_1 := blk_frozen BK132.out 1)))
                      go_roundg kj4
                      case measure => have := HK1.out; have := HJ4.out; omega
                      case rel => exact ⟨(y137), (true), (wrap64 (x7_1 + 1)), (by first | rfl | (simp; done) | (simp [*]; done)), (by first | rfl | (simp; done) | (simp [*]; done)), H', ⟨by have := HK1.out; have := HJ4.out; omega⟩, ⟨by (with_reducible repeat (first | apply Kd.R_alloc | apply Kd.R_drewN | apply Kd.R_drew)); exact HO139.out⟩, ⟨by (with_reducible repeat (first | refine blk_drewN ?_ _ | refine blk_drew ?_ | refine blk_alloc ?_ _)); exact BK132.out⟩, ⟨by repeat (first | (with_reducible first | exact HB.out | apply below_alloc | apply pw_below_drewN | apply below_drew1 | refine below_set ?_ GE132.out) | exact HB.out)⟩⟩
                    · rw [if_neg c14] at H
                      have c14b0 : (((rd_T61 l0 x7_1).f0) == a1_0) = false := beq_eq_false_iff_ne.mpr c14
                      have c14b1 : (((rd_T61 l0 x7_1).f0) != a1_0) = true := bne_iff_ne.mpr c14
                      by_cases c18 : y137.length < 8796093022208
                      · rw [if_pos c18] at H
                        have LMc18 := Aside0.mk c18
                        clear c18
                        obtain ⟨y142, hy142⟩ : ∃ y_ : List (S61), y_ = (y137 ++ [(⟨(rd_T61 l0 x7_1).f0, (rd_T61 l0 x7_1).f1⟩ : S61)]) := ⟨_, rfl⟩
                        replace H : (stepstoneref07_With.l0 kj4 l0 y142 true (wrap64 (x7_1 + 1)) a1_0 a1_1) = some r := by first | (rw [hy142]; with_reducible exact H) | (have H2_ := (Option.bind_some _ _).symm.trans H; rw [hy142]; with_reducible exact H2_) | (have H2_ := (Option.bind_some _ _).symm.trans H; with_reducible exact H2_) | with_reducible exact H | (rw [hy142]; exact H) | exact H
                        have Ny142 := Aside0.mk hy142
                        clear hy142
                        have H' := Aside0.mk H
                        clear H
                        have hcz19_0 : wc.cell? ⟨gb132, 0, none⟩ = some (.int .u64 a1_0) := (blk_cell BK132.out 0).trans rfl
                        have hcz19_1 : wc.cell? ⟨gb132, 1, none⟩ = some (.int .u64 a1_1) := (blk_cell BK132.out 1).trans rfl
                        have hfz19_0 := blk_frozen BK132.out 0
                        have hfz19_1 := blk_frozen BK132.out 1
                        go_wp2_with (first | ((with_reducible refine gate_builtin (b := .append) (xs := #[.tmp 26, .tmp 28]) rfl ?_); at_builtin; refine Kd.R_append k61 (w0 := w) w.heap.size rfl (.tmp 26) (.tmp 28) 31 61 (.agg #[(.int .u64 0), (.int .u64 0)]) 16 rfl Try.underlying31 info61 rfl (by decide) (by omega) u5 x5_1 (⟨a1_0, a1_1⟩ : S61) [.int .u64 a1_0, .int .u64 a1_1] (fun k_ => k_ ≠ gb132) (fun _ => False) rfl rfl ?aP (fun _ hk => hk.elim) ?aF ?aO ?aB ?aS ?aL ?_; (case aP => exact k61_mkM _ _ _ (⟨a1_0, a1_1⟩ : S61)); (case aB => exact (by repeat (first | (with_reducible first | exact HB.out | apply below_alloc | apply pw_below_drewN | apply below_drew1 | refine below_set ?_ GE132.out) | exact HB.out))); (case aF => exact (fun k_ hk => Kd.freshB (g := gb132) (o := .cells #[.int .u64 a1_0, .int .u64 a1_1] 61 (0, 0)) (by (with_reducible repeat (first | refine blk_drewN ?_ _ | refine blk_drew ?_ | refine blk_alloc ?_ _)); exact BK132.out) k_ hk)); (case aO => exact (by (with_reducible repeat (first | apply Kd.R_alloc | apply Kd.R_drewN | apply Kd.R_drew)); exact HO_5.out)); (case aS => exact (below_size (by repeat (first | (with_reducible first | exact HB.out | apply below_alloc | apply pw_below_drewN | apply below_drew1 | refine below_set ?_ GE132.out) | exact HB.out)))); (case aL => have := LMc11.out; omega); intro v138 w20 ho hb hg hat; rw [← Ny137.out] at ho; have n0_ := Aside0.mk (blk_grown (g := gb132) (o := .cells #[.int .u64 a1_0, .int .u64 a1_1] 61 (0, 0)) (by (with_reducible repeat (first | refine blk_drewN ?_ _ | refine blk_drew ?_ | refine blk_alloc ?_ _)); exact BK132.out) hg (Kd.R_away HO_5.out (fun _ hk => hk))); have n1_ := Aside0.mk (hb); have n2_ := Aside0.mk (ho); clear BK132; clear HB; clear HO_5; have BK132 := n0_; have HB := n1_; have HO139 := n2_; clear n0_ n1_ n2_; clear ho hb hg hat; have p140 : 0 ≤ (x7_1 : Int) := of_decide_eq_true (by first | (with_reducible assumption) | assumption); have q140 : x7_1 < (l0.length : Int) := of_decide_eq_true (by first | (with_reducible assumption) | assumption); obtain ⟨ad140, e140, hx140_0, hx140_1⟩ := at_T61 HR0.out x7_1 p140 q140; cases e140; replace hx140_0 := (HB.out.cell (World.block_lt_of_cell? w _ hx140_0)).trans hx140_0; replace hx140_1 := (HB.out.cell (World.block_lt_of_cell? w _ hx140_1)).trans hx140_1; replace p140 := eq_true p140; replace q140 := eq_true q140; have hcz21_0 : w20.cell? ⟨gb132, 0, none⟩ = some (.int .u64 a1_0) := (blk_cell BK132.out 0).trans rfl; have hcz21_1 : w20.cell? ⟨gb132, 1, none⟩ = some (.int .u64 a1_1) := (blk_cell BK132.out 1).trans rfl; have hfz21_0 := blk_frozen BK132.out 0; have hfz21_1 := blk_frozen BK132.out 1; have p141 : 0 ≤ (x7_1 : Int) := of_decide_eq_true (by first | (with_reducible assumption) | assumption); have q141 : x7_1 < (l0.length : Int) := of_decide_eq_true (by first | (with_reducible assumption) | assumption); obtain ⟨ad141, e141, hx141_0, hx141_1⟩ := at_T61 HR0.out x7_1 p141 q141; obtain rfl : ad140 = ad141 := (by injection e141); replace hx141_0 := (HB.out.cell (World.block_lt_of_cell? w _ hx141_0)).trans hx141_0; replace hx141_1 := (HB.out.cell (World.block_lt_of_cell? w _ hx141_1)).trans hx141_1; replace p141 := eq_true p141; replace q141 := eq_true q141) | ((with_reducible refine gate_builtin (b := .append) (xs := #[.tmp 38, .tmp 43]) rfl ?_); at_builtin; refine Kd.R_append k61 (w0 := w) w.heap.size rfl (.tmp 38) (.tmp 43) 31 61 (.agg #[(.int .u64 0), (.int .u64 0)]) 16 rfl Try.underlying31 info61 rfl (by decide) (by omega) v138 y137 (⟨(rd_T61 l0 x7_1).f0, (rd_T61 l0 x7_1).f1⟩ : S61) [.int .u64 ((rd_T61 l0 x7_1).f0), .int .u64 ((rd_T61 l0 x7_1).f1)] (fun k_ => k_ ≠ gb132) (fun _ => False) rfl rfl ?aP (fun _ hk => hk.elim) ?aF ?aO ?aB ?aS ?aL ?_; (case aP => exact k61_mkM _ _ _ (⟨(rd_T61 l0 x7_1).f0, (rd_T61 l0 x7_1).f1⟩ : S61)); (case aB => exact (by repeat (first | (with_reducible first | exact HB.out | apply below_alloc | apply pw_below_drewN | apply below_drew1 | refine below_set ?_ GE132.out) | exact HB.out))); (case aF => exact (fun k_ hk => Kd.freshB (g := gb132) (o := .cells #[.int .u64 a1_0, .int .u64 a1_1] 61 (0, 0)) (by (with_reducible repeat (first | refine blk_drewN ?_ _ | refine blk_drew ?_ | refine blk_alloc ?_ _)); exact BK132.out) k_ hk)); (case aO => exact (by (with_reducible repeat (first | apply Kd.R_alloc | apply Kd.R_drewN | apply Kd.R_drew)); exact HO139.out)); (case aS => exact (below_size (by repeat (first | (with_reducible first | exact HB.out | apply below_alloc | apply pw_below_drewN | apply below_drew1 | refine below_set ?_ GE132.out) | exact HB.out)))); (case aL => have := LMc18.out; omega); intro v143 w22 ho hb hg hat; rw [← Ny142.out] at ho; have n0_ := Aside0.mk (blk_grown (g := gb132) (o := .cells #[.int .u64 a1_0, .int .u64 a1_1] 61 (0, 0)) (by (with_reducible repeat (first | refine blk_drewN ?_ _ | refine blk_drew ?_ | refine blk_alloc ?_ _)); exact BK132.out) hg (Kd.R_away HO139.out (fun _ hk => hk))); have n1_ := Aside0.mk (hb); have n2_ := Aside0.mk (ho); clear BK132; clear HB; clear HO139; have BK132 := n0_; have HB := n1_; have HO144 := n2_; clear n0_ n1_ n2_; clear ho hb hg hat))
                        repeat (go_quiet (first | ((with_reducible refine gate_builtin (b := .append) (xs := #[.tmp 26, .tmp 28]) rfl ?_); at_builtin; refine Kd.R_append k61 (w0 := w) w.heap.size rfl (.tmp 26) (.tmp 28) 31 61 (.agg #[(.int .u64 0), (.int .u64 0)]) 16 rfl Try.underlying31 info61 rfl (by decide) (by omega) u5 x5_1 (⟨a1_0, a1_1⟩ : S61) [.int .u64 a1_0, .int .u64 a1_1] (fun k_ => k_ ≠ gb132) (fun _ => False) rfl rfl ?aP (fun _ hk => hk.elim) ?aF ?aO ?aB ?aS ?aL ?_; (case aP => exact k61_mkM _ _ _ (⟨a1_0, a1_1⟩ : S61)); (case aB => exact (by repeat (first | (with_reducible first | exact HB.out | apply below_alloc | apply pw_below_drewN | apply below_drew1 | refine below_set ?_ GE132.out) | exact HB.out))); (case aF => exact (fun k_ hk => Kd.freshB (g := gb132) (o := .cells #[.int .u64 a1_0, .int .u64 a1_1] 61 (0, 0)) (by (with_reducible repeat (first | refine blk_drewN ?_ _ | refine blk_drew ?_ | refine blk_alloc ?_ _)); exact BK132.out) k_ hk)); (case aO => exact (by (with_reducible repeat (first | apply Kd.R_alloc | apply Kd.R_drewN | apply Kd.R_drew)); exact HO_5.out)); (case aS => exact (below_size (by repeat (first | (with_reducible first | exact HB.out | apply below_alloc | apply pw_below_drewN | apply below_drew1 | refine below_set ?_ GE132.out) | exact HB.out)))); (case aL => have := LMc11.out; omega); intro v138 w20 ho hb hg hat; rw [← Ny137.out] at ho; have n0_ := Aside0.mk (blk_grown (g := gb132) (o := .cells #[.int .u64 a1_0, .int .u64 a1_1] 61 (0, 0)) (by (with_reducible repeat (first | refine blk_drewN ?_ _ | refine blk_drew ?_ | refine blk_alloc ?_ _)); exact BK132.out) hg (Kd.R_away HO_5.out (fun _ hk => hk))); have n1_ := Aside0.mk (hb); have n2_ := Aside0.mk (ho); clear BK132; clear HB; clear HO_5; have BK132 := n0_; have HB := n1_; have HO139 := n2_; clear n0_ n1_ n2_; clear ho hb hg hat; have p140 : 0 ≤ (x7_1 : Int) := of_decide_eq_true (by first | (with_reducible assumption) | assumption); have q140 : x7_1 < (l0.length : Int) := of_decide_eq_true (by first | (with_reducible assumption) | assumption); obtain ⟨ad140, e140, hx140_0, hx140_1⟩ := at_T61 HR0.out x7_1 p140 q140; cases e140; replace hx140_0 := (HB.out.cell (World.block_lt_of_cell? w _ hx140_0)).trans hx140_0; replace hx140_1 := (HB.out.cell (World.block_lt_of_cell? w _ hx140_1)).trans hx140_1; replace p140 := eq_true p140; replace q140 := eq_true q140; have hcz21_0 : w20.cell? ⟨gb132, 0, none⟩ = some (.int .u64 a1_0) := (blk_cell BK132.out 0).trans rfl; have hcz21_1 : w20.cell? ⟨gb132, 1, none⟩ = some (.int .u64 a1_1) := (blk_cell BK132.out 1).trans rfl; have hfz21_0 := blk_frozen BK132.out 0; have hfz21_1 := blk_frozen BK132.out 1; have p141 : 0 ≤ (x7_1 : Int) := of_decide_eq_true (by first | (with_reducible assumption) | assumption); have q141 : x7_1 < (l0.length : Int) := of_decide_eq_true (by first | (with_reducible assumption) | assumption); obtain ⟨ad141, e141, hx141_0, hx141_1⟩ := at_T61 HR0.out x7_1 p141 q141; obtain rfl : ad140 = ad141 := (by injection e141); replace hx141_0 := (HB.out.cell (World.block_lt_of_cell? w _ hx141_0)).trans hx141_0; replace hx141_1 := (HB.out.cell (World.block_lt_of_cell? w _ hx141_1)).trans hx141_1; replace p141 := eq_true p141; replace q141 := eq_true q141) | ((with_reducible refine gate_builtin (b := .append) (xs := #[.tmp 38, .tmp 43]) rfl ?_); at_builtin; refine Kd.R_append k61 (w0 := w) w.heap.size rfl (.tmp 38) (.tmp 43) 31 61 (.agg #[(.int .u64 0), (.int .u64 0)]) 16 rfl Try.underlying31 info61 rfl (by decide) (by omega) v138 y137 (⟨(rd_T61 l0 x7_1).f0, (rd_T61 l0 x7_1).f1⟩ : S61) [.int .u64 ((rd_T61 l0 x7_1).f0), .int .u64 ((rd_T61 l0 x7_1).f1)] (fun k_ => k_ ≠ gb132) (fun _ => False) rfl rfl ?aP (fun _ hk => hk.elim) ?aF ?aO ?aB ?aS ?aL ?_; (case aP => exact k61_mkM _ _ _ (⟨(rd_T61 l0 x7_1).f0, (rd_T61 l0 x7_1).f1⟩ : S61)); (case aB => exact (by repeat (first | (with_reducible first | exact HB.out | apply below_alloc | apply pw_below_drewN | apply below_drew1 | refine below_set ?_ GE132.out) | exact HB.out))); (case aF => exact (fun k_ hk => Kd.freshB (g := gb132) (o := .cells #[.int .u64 a1_0, .int .u64 a1_1] 61 (0, 0)) (by (with_reducible repeat (first | refine blk_drewN ?_ _ | refine blk_drew ?_ | refine blk_alloc ?_ _)); exact BK132.out) k_ hk)); (case aO => exact (by (with_reducible repeat (first | apply Kd.R_alloc | apply Kd.R_drewN | apply Kd.R_drew)); exact HO139.out)); (case aS => exact (below_size (by repeat (first | (with_reducible first | exact HB.out | apply below_alloc | apply pw_below_drewN | apply below_drew1 | refine below_set ?_ GE132.out) | exact HB.out)))); (case aL => have := LMc18.out; omega); intro v143 w22 ho hb hg hat; rw [← Ny142.out] at ho; have n0_ := Aside0.mk (blk_grown (g := gb132) (o := .cells #[.int .u64 a1_0, .int .u64 a1_1] 61 (0, 0)) (by (with_reducible repeat (first | refine blk_drewN ?_ _ | refine blk_drew ?_ | refine blk_alloc ?_ _)); exact BK132.out) hg (Kd.R_away HO139.out (fun _ hk => hk))); have n1_ := Aside0.mk (hb); have n2_ := Aside0.mk (ho); clear BK132; clear HB; clear HO139; have BK132 := n0_; have HB := n1_; have HO144 := n2_; clear n0_ n1_ n2_; clear ho hb hg hat)); try go_wp2_with (first | ((with_reducible refine gate_builtin (b := .append) (xs := #[.tmp 26, .tmp 28]) rfl ?_); at_builtin; refine Kd.R_append k61 (w0 := w) w.heap.size rfl (.tmp 26) (.tmp 28) 31 61 (.agg #[(.int .u64 0), (.int .u64 0)]) 16 rfl Try.underlying31 info61 rfl (by decide) (by omega) u5 x5_1 (⟨a1_0, a1_1⟩ : S61) [.int .u64 a1_0, .int .u64 a1_1] (fun k_ => k_ ≠ gb132) (fun _ => False) rfl rfl ?aP (fun _ hk => hk.elim) ?aF ?aO ?aB ?aS ?aL ?_; (case aP => exact k61_mkM _ _ _ (⟨a1_0, a1_1⟩ : S61)); (case aB => exact (by repeat (first | (with_reducible first | exact HB.out | apply below_alloc | apply pw_below_drewN | apply below_drew1 | refine below_set ?_ GE132.out) | exact HB.out))); (case aF => exact (fun k_ hk => Kd.freshB (g := gb132) (o := .cells #[.int .u64 a1_0, .int .u64 a1_1] 61 (0, 0)) (by (with_reducible repeat (first | refine blk_drewN ?_ _ | refine blk_drew ?_ | refine blk_alloc ?_ _)); exact BK132.out) k_ hk)); (case aO => exact (by (with_reducible repeat (first | apply Kd.R_alloc | apply Kd.R_drewN | apply Kd.R_drew)); exact HO_5.out)); (case aS => exact (below_size (by repeat (first | (with_reducible first | exact HB.out | apply below_alloc | apply pw_below_drewN | apply below_drew1 | refine below_set ?_ GE132.out) | exact HB.out)))); (case aL => have := LMc11.out; omega); intro v138 w20 ho hb hg hat; rw [← Ny137.out] at ho; have n0_ := Aside0.mk (blk_grown (g := gb132) (o := .cells #[.int .u64 a1_0, .int .u64 a1_1] 61 (0, 0)) (by (with_reducible repeat (first | refine blk_drewN ?_ _ | refine blk_drew ?_ | refine blk_alloc ?_ _)); exact BK132.out) hg (Kd.R_away HO_5.out (fun _ hk => hk))); have n1_ := Aside0.mk (hb); have n2_ := Aside0.mk (ho); clear BK132; clear HB; clear HO_5; have BK132 := n0_; have HB := n1_; have HO139 := n2_; clear n0_ n1_ n2_; clear ho hb hg hat; have p140 : 0 ≤ (x7_1 : Int) := of_decide_eq_true (by first | (with_reducible assumption) | assumption); have q140 : x7_1 < (l0.length : Int) := of_decide_eq_true (by first | (with_reducible assumption) | assumption); obtain ⟨ad140, e140, hx140_0, hx140_1⟩ := at_T61 HR0.out x7_1 p140 q140; cases e140; replace hx140_0 := (HB.out.cell (World.block_lt_of_cell? w _ hx140_0)).trans hx140_0; replace hx140_1 := (HB.out.cell (World.block_lt_of_cell? w _ hx140_1)).trans hx140_1; replace p140 := eq_true p140; replace q140 := eq_true q140; have hcz21_0 : w20.cell? ⟨gb132, 0, none⟩ = some (.int .u64 a1_0) := (blk_cell BK132.out 0).trans rfl; have hcz21_1 : w20.cell? ⟨gb132, 1, none⟩ = some (.int .u64 a1_1) := (blk_cell BK132.out 1).trans rfl; have hfz21_0 := blk_frozen BK132.out 0; have hfz21_1 := blk_frozen BK132.out 1; have p141 : 0 ≤ (x7_1 : Int) := of_decide_eq_true (by first | (with_reducible assumption) | assumption); have q141 : x7_1 < (l0.length : Int) := of_decide_eq_true (by first | (with_reducible assumption) | assumption); obtain ⟨ad141, e141, hx141_0, hx141_1⟩ := at_T61 HR0.out x7_1 p141 q141; obtain rfl : ad140 = ad141 := (by injection e141); replace hx141_0 := (HB.out.cell (World.block_lt_of_cell? w _ hx141_0)).trans hx141_0; replace hx141_1 := (HB.out.cell (World.block_lt_of_cell? w _ hx141_1)).trans hx141_1; replace p141 := eq_true p141; replace q141 := eq_true q141) | ((with_reducible refine gate_builtin (b := .append) (xs := #[.tmp 38, .tmp 43]) rfl ?_); at_builtin; refine Kd.R_append k61 (w0 := w) w.heap.size rfl (.tmp 38) (.tmp 43) 31 61 (.agg #[(.int .u64 0), (.int .u64 0)]) 16 rfl Try.underlying31 info61 rfl (by decide) (by omega) v138 y137 (⟨(rd_T61 l0 x7_1).f0, (rd_T61 l0 x7_1).f1⟩ : S61) [.int .u64 ((rd_T61 l0 x7_1).f0), .int .u64 ((rd_T61 l0 x7_1).f1)] (fun k_ => k_ ≠ gb132) (fun _ => False) rfl rfl ?aP (fun _ hk => hk.elim) ?aF ?aO ?aB ?aS ?aL ?_; (case aP => exact k61_mkM _ _ _ (⟨(rd_T61 l0 x7_1).f0, (rd_T61 l0 x7_1).f1⟩ : S61)); (case aB => exact (by repeat (first | (with_reducible first | exact HB.out | apply below_alloc | apply pw_below_drewN | apply below_drew1 | refine below_set ?_ GE132.out) | exact HB.out))); (case aF => exact (fun k_ hk => Kd.freshB (g := gb132) (o := .cells #[.int .u64 a1_0, .int .u64 a1_1] 61 (0, 0)) (by (with_reducible repeat (first | refine blk_drewN ?_ _ | refine blk_drew ?_ | refine blk_alloc ?_ _)); exact BK132.out) k_ hk)); (case aO => exact (by (with_reducible repeat (first | apply Kd.R_alloc | apply Kd.R_drewN | apply Kd.R_drew)); exact HO139.out)); (case aS => exact (below_size (by repeat (first | (with_reducible first | exact HB.out | apply below_alloc | apply pw_below_drewN | apply below_drew1 | refine below_set ?_ GE132.out) | exact HB.out)))); (case aL => have := LMc18.out; omega); intro v143 w22 ho hb hg hat; rw [← Ny142.out] at ho; have n0_ := Aside0.mk (blk_grown (g := gb132) (o := .cells #[.int .u64 a1_0, .int .u64 a1_1] 61 (0, 0)) (by (with_reducible repeat (first | refine blk_drewN ?_ _ | refine blk_drew ?_ | refine blk_alloc ?_ _)); exact BK132.out) hg (Kd.R_away HO139.out (fun _ hk => hk))); have n1_ := Aside0.mk (hb); have n2_ := Aside0.mk (ho); clear BK132; clear HB; clear HO139; have BK132 := n0_; have HB := n1_; have HO144 := n2_; clear n0_ n1_ n2_; clear ho hb hg hat)))
                        go_roundg kj4
                        case measure => have := HK1.out; have := HJ4.out; omega
                        case rel => exact ⟨(y142), (true), (wrap64 (x7_1 + 1)), (by first | rfl | (simp; done) | (simp [*]; done)), (by first | rfl | (simp; done) | (simp [*]; done)), H', ⟨by have := HK1.out; have := HJ4.out; omega⟩, ⟨by (with_reducible repeat (first | apply Kd.R_alloc | apply Kd.R_drewN | apply Kd.R_drew)); exact HO144.out⟩, ⟨by (with_reducible repeat (first | refine blk_drewN ?_ _ | refine blk_drew ?_ | refine blk_alloc ?_ _)); exact BK132.out⟩, ⟨by repeat (first | (with_reducible first | exact HB.out | apply below_alloc | apply pw_below_drewN | apply below_drew1 | refine below_set ?_ GE132.out) | exact HB.out)⟩⟩
                      · rw [if_neg c18] at H
                        exact absurd H (by simp)
                  · rw [if_neg c13] at H
                    exact absurd H (by simp)
                · rw [if_neg c12] at H
                  exact absurd H (by simp)
              · rw [if_neg c11] at H
                exact absurd H (by simp)
            · replace c10 := Bool.eq_false_iff.mpr c10
              subst c10
              have H1 : (if 0 ≤ x7_1 then (if x7_1 < (l0.length : Int) then (if ((rd_T61 l0 x7_1).f0) = a1_0 then (stepstoneref07_With.l0 kj4 l0 x5_1 x6_1 (wrap64 (x7_1 + 1)) a1_0 a1_1) else (if x5_1.length < 8796093022208 then (stepstoneref07_With.l0 kj4 l0 (x5_1 ++ [(⟨(rd_T61 l0 x7_1).f0, (rd_T61 l0 x7_1).f1⟩ : S61)]) x6_1 (wrap64 (x7_1 + 1)) a1_0 a1_1) else (none))) else (none)) else (none)) = some r := by rw [if_neg (show ¬ (false = true) by decide)] at H; exact H
              clear H
              have H := H1
              clear H1
              by_cases c23 : 0 ≤ x7_1
              · rw [if_pos c23] at H
                have c23b0 : decide (0 ≤ x7_1) = true := decide_eq_true c23
                clear c23
                by_cases c24 : x7_1 < (l0.length : Int)
                · rw [if_pos c24] at H
                  have c24b0 : decide (x7_1 < (l0.length : Int)) = true := decide_eq_true c24
                  clear c24
                  by_cases c25 : ((rd_T61 l0 x7_1).f0) = a1_0
                  · rw [if_pos c25] at H
                    have c25b0 : (((rd_T61 l0 x7_1).f0) == a1_0) = true := beq_iff_eq.mpr c25
                    have c25b1 : (((rd_T61 l0 x7_1).f0) != a1_0) = false := bne_eq_false_iff_eq.mpr c25
                    clear c25
                    have H' := Aside0.mk H
                    clear H
                    have p145 : 0 ≤ (x7_1 : Int) := of_decide_eq_true (by first | (with_reducible assumption) | assumption)
                    have q145 : x7_1 < (l0.length : Int) := of_decide_eq_true (by first | (with_reducible assumption) | assumption)
                    obtain ⟨ad145, e145, hx145_0, hx145_1⟩ := at_T61 HR0.out x7_1 p145 q145
                    cases e145
                    replace hx145_0 := (HB.out.cell (World.block_lt_of_cell? w _ hx145_0)).trans hx145_0
                    replace hx145_1 := (HB.out.cell (World.block_lt_of_cell? w _ hx145_1)).trans hx145_1
                    replace p145 := eq_true p145
                    replace q145 := eq_true q145
                    have hcz26_0 : wc.cell? ⟨gb132, 0, none⟩ = some (.int .u64 a1_0) := (blk_cell BK132.out 0).trans rfl
                    have hcz26_1 : wc.cell? ⟨gb132, 1, none⟩ = some (.int .u64 a1_1) := (blk_cell BK132.out 1).trans rfl
                    have hfz26_0 := blk_frozen BK132.out 0
                    have hfz26_1 := blk_frozen BK132.out 1
                    go_wp2
                    repeat (go_quiet (fail); try go_wp2)
                    go_roundg kj4
                    case measure => have := HK1.out; have := HJ4.out; omega
                    case rel => exact ⟨(x5_1), (x6_1), (wrap64 (x7_1 + 1)), (by first | rfl | (simp; done) | (simp [*]; done)), (by first | rfl | (simp; done) | (simp [*]; done)), H', ⟨by have := HK1.out; have := HJ4.out; omega⟩, ⟨by (with_reducible repeat (first | apply Kd.R_alloc | apply Kd.R_drewN | apply Kd.R_drew)); exact HO_5.out⟩, ⟨by (with_reducible repeat (first | refine blk_drewN ?_ _ | refine blk_drew ?_ | refine blk_alloc ?_ _)); exact BK132.out⟩, ⟨by repeat (first | (with_reducible first | exact HB.out | apply below_alloc | apply pw_below_drewN | apply below_drew1 | refine below_set ?_ GE132.out) | exact HB.out)⟩⟩
                  · rw [if_neg c25] at H
                    have c25b0 : (((rd_T61 l0 x7_1).f0) == a1_0) = false := beq_eq_false_iff_ne.mpr c25
                    have c25b1 : (((rd_T61 l0 x7_1).f0) != a1_0) = true := bne_iff_ne.mpr c25
                    by_cases c27 : x5_1.length < 8796093022208
                    · rw [if_pos c27] at H
                      have LMc27 := Aside0.mk c27
                      clear c27
                      obtain ⟨y147, hy147⟩ : ∃ y_ : List (S61), y_ = (x5_1 ++ [(⟨(rd_T61 l0 x7_1).f0, (rd_T61 l0 x7_1).f1⟩ : S61)]) := ⟨_, rfl⟩
                      replace H : (stepstoneref07_With.l0 kj4 l0 y147 x6_1 (wrap64 (x7_1 + 1)) a1_0 a1_1) = some r := by first | (rw [hy147]; with_reducible exact H) | (have H2_ := (Option.bind_some _ _).symm.trans H; rw [hy147]; with_reducible exact H2_) | (have H2_ := (Option.bind_some _ _).symm.trans H; with_reducible exact H2_) | with_reducible exact H | (rw [hy147]; exact H) | exact H
                      have Ny147 := Aside0.mk hy147
                      clear hy147
                      have H' := Aside0.mk H
                      clear H
                      have p145 : 0 ≤ (x7_1 : Int) := of_decide_eq_true (by first | (with_reducible assumption) | assumption)
                      have q145 : x7_1 < (l0.length : Int) := of_decide_eq_true (by first | (with_reducible assumption) | assumption)
                      obtain ⟨ad145, e145, hx145_0, hx145_1⟩ := at_T61 HR0.out x7_1 p145 q145
                      cases e145
                      replace hx145_0 := (HB.out.cell (World.block_lt_of_cell? w _ hx145_0)).trans hx145_0
                      replace hx145_1 := (HB.out.cell (World.block_lt_of_cell? w _ hx145_1)).trans hx145_1
                      replace p145 := eq_true p145
                      replace q145 := eq_true q145
                      have hcz28_0 : wc.cell? ⟨gb132, 0, none⟩ = some (.int .u64 a1_0) := (blk_cell BK132.out 0).trans rfl
                      have hcz28_1 : wc.cell? ⟨gb132, 1, none⟩ = some (.int .u64 a1_1) := (blk_cell BK132.out 1).trans rfl
                      have hfz28_0 := blk_frozen BK132.out 0
                      have hfz28_1 := blk_frozen BK132.out 1
                      have p146 : 0 ≤ (x7_1 : Int) := of_decide_eq_true (by first | (with_reducible assumption) | assumption)
                      have q146 : x7_1 < (l0.length : Int) := of_decide_eq_true (by first | (with_reducible assumption) | assumption)
                      obtain ⟨ad146, e146, hx146_0, hx146_1⟩ := at_T61 HR0.out x7_1 p146 q146
                      obtain rfl : ad145 = ad146 := (by injection e146)
                      replace hx146_0 := (HB.out.cell (World.block_lt_of_cell? w _ hx146_0)).trans hx146_0
                      replace hx146_1 := (HB.out.cell (World.block_lt_of_cell? w _ hx146_1)).trans hx146_1
                      replace p146 := eq_true p146
                      replace q146 := eq_true q146
                      go_wp2_with (first | ((with_reducible refine gate_builtin (b := .append) (xs := #[.tmp 38, .tmp 43]) rfl ?_); at_builtin; refine Kd.R_append k61 (w0 := w) w.heap.size rfl (.tmp 38) (.tmp 43) 31 61 (.agg #[(.int .u64 0), (.int .u64 0)]) 16 rfl Try.underlying31 info61 rfl (by decide) (by omega) u5 x5_1 (⟨(rd_T61 l0 x7_1).f0, (rd_T61 l0 x7_1).f1⟩ : S61) [.int .u64 ((rd_T61 l0 x7_1).f0), .int .u64 ((rd_T61 l0 x7_1).f1)] (fun k_ => k_ ≠ gb132) (fun _ => False) rfl rfl ?aP (fun _ hk => hk.elim) ?aF ?aO ?aB ?aS ?aL ?_; (case aP => exact k61_mkM _ _ _ (⟨(rd_T61 l0 x7_1).f0, (rd_T61 l0 x7_1).f1⟩ : S61)); (case aB => exact (by repeat (first | (with_reducible first | exact HB.out | apply below_alloc | apply pw_below_drewN | apply below_drew1 | refine below_set ?_ GE132.out) | exact HB.out))); (case aF => exact (fun k_ hk => Kd.freshB (g := gb132) (o := .cells #[.int .u64 a1_0, .int .u64 a1_1] 61 (0, 0)) (by (with_reducible repeat (first | refine blk_drewN ?_ _ | refine blk_drew ?_ | refine blk_alloc ?_ _)); exact BK132.out) k_ hk)); (case aO => exact (by (with_reducible repeat (first | apply Kd.R_alloc | apply Kd.R_drewN | apply Kd.R_drew)); exact HO_5.out)); (case aS => exact (below_size (by repeat (first | (with_reducible first | exact HB.out | apply below_alloc | apply pw_below_drewN | apply below_drew1 | refine below_set ?_ GE132.out) | exact HB.out)))); (case aL => have := LMc27.out; omega); intro v148 w29 ho hb hg hat; rw [← Ny147.out] at ho; have n0_ := Aside0.mk (blk_grown (g := gb132) (o := .cells #[.int .u64 a1_0, .int .u64 a1_1] 61 (0, 0)) (by (with_reducible repeat (first | refine blk_drewN ?_ _ | refine blk_drew ?_ | refine blk_alloc ?_ _)); exact BK132.out) hg (Kd.R_away HO_5.out (fun _ hk => hk))); have n1_ := Aside0.mk (hb); have n2_ := Aside0.mk (ho); clear BK132; clear HB; clear HO_5; have BK132 := n0_; have HB := n1_; have HO149 := n2_; clear n0_ n1_ n2_; clear ho hb hg hat))
                      repeat (go_quiet (first | ((with_reducible refine gate_builtin (b := .append) (xs := #[.tmp 38, .tmp 43]) rfl ?_); at_builtin; refine Kd.R_append k61 (w0 := w) w.heap.size rfl (.tmp 38) (.tmp 43) 31 61 (.agg #[(.int .u64 0), (.int .u64 0)]) 16 rfl Try.underlying31 info61 rfl (by decide) (by omega) u5 x5_1 (⟨(rd_T61 l0 x7_1).f0, (rd_T61 l0 x7_1).f1⟩ : S61) [.int .u64 ((rd_T61 l0 x7_1).f0), .int .u64 ((rd_T61 l0 x7_1).f1)] (fun k_ => k_ ≠ gb132) (fun _ => False) rfl rfl ?aP (fun _ hk => hk.elim) ?aF ?aO ?aB ?aS ?aL ?_; (case aP => exact k61_mkM _ _ _ (⟨(rd_T61 l0 x7_1).f0, (rd_T61 l0 x7_1).f1⟩ : S61)); (case aB => exact (by repeat (first | (with_reducible first | exact HB.out | apply below_alloc | apply pw_below_drewN | apply below_drew1 | refine below_set ?_ GE132.out) | exact HB.out))); (case aF => exact (fun k_ hk => Kd.freshB (g := gb132) (o := .cells #[.int .u64 a1_0, .int .u64 a1_1] 61 (0, 0)) (by (with_reducible repeat (first | refine blk_drewN ?_ _ | refine blk_drew ?_ | refine blk_alloc ?_ _)); exact BK132.out) k_ hk)); (case aO => exact (by (with_reducible repeat (first | apply Kd.R_alloc | apply Kd.R_drewN | apply Kd.R_drew)); exact HO_5.out)); (case aS => exact (below_size (by repeat (first | (with_reducible first | exact HB.out | apply below_alloc | apply pw_below_drewN | apply below_drew1 | refine below_set ?_ GE132.out) | exact HB.out)))); (case aL => have := LMc27.out; omega); intro v148 w29 ho hb hg hat; rw [← Ny147.out] at ho; have n0_ := Aside0.mk (blk_grown (g := gb132) (o := .cells #[.int .u64 a1_0, .int .u64 a1_1] 61 (0, 0)) (by (with_reducible repeat (first | refine blk_drewN ?_ _ | refine blk_drew ?_ | refine blk_alloc ?_ _)); exact BK132.out) hg (Kd.R_away HO_5.out (fun _ hk => hk))); have n1_ := Aside0.mk (hb); have n2_ := Aside0.mk (ho); clear BK132; clear HB; clear HO_5; have BK132 := n0_; have HB := n1_; have HO149 := n2_; clear n0_ n1_ n2_; clear ho hb hg hat)); try go_wp2_with (first | ((with_reducible refine gate_builtin (b := .append) (xs := #[.tmp 38, .tmp 43]) rfl ?_); at_builtin; refine Kd.R_append k61 (w0 := w) w.heap.size rfl (.tmp 38) (.tmp 43) 31 61 (.agg #[(.int .u64 0), (.int .u64 0)]) 16 rfl Try.underlying31 info61 rfl (by decide) (by omega) u5 x5_1 (⟨(rd_T61 l0 x7_1).f0, (rd_T61 l0 x7_1).f1⟩ : S61) [.int .u64 ((rd_T61 l0 x7_1).f0), .int .u64 ((rd_T61 l0 x7_1).f1)] (fun k_ => k_ ≠ gb132) (fun _ => False) rfl rfl ?aP (fun _ hk => hk.elim) ?aF ?aO ?aB ?aS ?aL ?_; (case aP => exact k61_mkM _ _ _ (⟨(rd_T61 l0 x7_1).f0, (rd_T61 l0 x7_1).f1⟩ : S61)); (case aB => exact (by repeat (first | (with_reducible first | exact HB.out | apply below_alloc | apply pw_below_drewN | apply below_drew1 | refine below_set ?_ GE132.out) | exact HB.out))); (case aF => exact (fun k_ hk => Kd.freshB (g := gb132) (o := .cells #[.int .u64 a1_0, .int .u64 a1_1] 61 (0, 0)) (by (with_reducible repeat (first | refine blk_drewN ?_ _ | refine blk_drew ?_ | refine blk_alloc ?_ _)); exact BK132.out) k_ hk)); (case aO => exact (by (with_reducible repeat (first | apply Kd.R_alloc | apply Kd.R_drewN | apply Kd.R_drew)); exact HO_5.out)); (case aS => exact (below_size (by repeat (first | (with_reducible first | exact HB.out | apply below_alloc | apply pw_below_drewN | apply below_drew1 | refine below_set ?_ GE132.out) | exact HB.out)))); (case aL => have := LMc27.out; omega); intro v148 w29 ho hb hg hat; rw [← Ny147.out] at ho; have n0_ := Aside0.mk (blk_grown (g := gb132) (o := .cells #[.int .u64 a1_0, .int .u64 a1_1] 61 (0, 0)) (by (with_reducible repeat (first | refine blk_drewN ?_ _ | refine blk_drew ?_ | refine blk_alloc ?_ _)); exact BK132.out) hg (Kd.R_away HO_5.out (fun _ hk => hk))); have n1_ := Aside0.mk (hb); have n2_ := Aside0.mk (ho); clear BK132; clear HB; clear HO_5; have BK132 := n0_; have HB := n1_; have HO149 := n2_; clear n0_ n1_ n2_; clear ho hb hg hat)))
                      go_roundg kj4
                      case measure => have := HK1.out; have := HJ4.out; omega
                      case rel => exact ⟨(y147), (x6_1), (wrap64 (x7_1 + 1)), (by first | rfl | (simp; done) | (simp [*]; done)), (by first | rfl | (simp; done) | (simp [*]; done)), H', ⟨by have := HK1.out; have := HJ4.out; omega⟩, ⟨by (with_reducible repeat (first | apply Kd.R_alloc | apply Kd.R_drewN | apply Kd.R_drew)); exact HO149.out⟩, ⟨by (with_reducible repeat (first | refine blk_drewN ?_ _ | refine blk_drew ?_ | refine blk_alloc ?_ _)); exact BK132.out⟩, ⟨by repeat (first | (with_reducible first | exact HB.out | apply below_alloc | apply pw_below_drewN | apply below_drew1 | refine below_set ?_ GE132.out) | exact HB.out)⟩⟩
                    · rw [if_neg c27] at H
                      exact absurd H (by simp)
                · rw [if_neg c24] at H
                  exact absurd H (by simp)
              · rw [if_neg c23] at H
                exact absurd H (by simp)
      · rw [if_neg c4] at H
        have c4b0 : decide (x7_1 < (l0.length : Int)) = false := decide_eq_false c4
        clear c4
        by_cases c30 : x6_1 = true
        · subst c30
          have H1 : (some x5_1) = some r := by rw [if_pos rfl] at H; exact H
          clear H
          have H := H1
          clear H1
          obtain rfl := Option.some.inj H
          go_wp2
          repeat (go_quiet (fail); try go_wp2)
          go_ret
          exact ⟨_, by first | rfl | (simp [errW_none, errW_some] <;> rfl) | (simp [*, errW_none, errW_some] <;> rfl), by (with_reducible repeat (first | apply Kd.R_alloc | apply Kd.R_drewN | apply Kd.R_drew)); exact Kd.R_mono HO_5.out (fun _ hk => trivial), by repeat (first | (with_reducible first | exact HB.out | apply below_alloc | apply pw_below_drewN | apply below_drew1 | refine below_set ?_ GE132.out) | exact HB.out)⟩
        · replace c30 := Bool.eq_false_iff.mpr c30
          subst c30
          have H1 : (if x5_1.length < 8796093022208 then (some (x5_1 ++ [(⟨a1_0, a1_1⟩ : S61)])) else (none)) = some r := by rw [if_neg (show ¬ (false = true) by decide)] at H; exact H
          clear H
          have H := H1
          clear H1
          by_cases c31 : x5_1.length < 8796093022208
          · rw [if_pos c31] at H
            have LMc31 := Aside0.mk c31
            clear c31
            obtain ⟨y133, hy133⟩ : ∃ y_ : List (S61), y_ = (x5_1 ++ [(⟨a1_0, a1_1⟩ : S61)]) := ⟨_, rfl⟩
            replace H : (some y133) = some r := by first | (rw [hy133]; with_reducible exact H) | (have H2_ := (Option.bind_some _ _).symm.trans H; rw [hy133]; with_reducible exact H2_) | (have H2_ := (Option.bind_some _ _).symm.trans H; with_reducible exact H2_) | with_reducible exact H | (rw [hy133]; exact H) | exact H
            have Ny133 := Aside0.mk hy133
            clear hy133
            obtain rfl := Option.some.inj H
            have hcz32_0 : wr.cell? ⟨gb132, 0, none⟩ = some (.int .u64 a1_0) := (blk_cell BK132.out 0).trans rfl
            have hcz32_1 : wr.cell? ⟨gb132, 1, none⟩ = some (.int .u64 a1_1) := (blk_cell BK132.out 1).trans rfl
            have hfz32_0 := blk_frozen BK132.out 0
            have hfz32_1 := blk_frozen BK132.out 1
            go_wp2_with (first | ((with_reducible refine gate_builtin (b := .append) (xs := #[.tmp 47, .tmp 49]) rfl ?_); at_builtin; refine Kd.R_append k61 (w0 := w) w.heap.size rfl (.tmp 47) (.tmp 49) 31 61 (.agg #[(.int .u64 0), (.int .u64 0)]) 16 rfl Try.underlying31 info61 rfl (by decide) (by omega) u5 x5_1 (⟨a1_0, a1_1⟩ : S61) [.int .u64 a1_0, .int .u64 a1_1] (fun k_ => k_ ≠ gb132) (fun _ => False) rfl rfl ?aP (fun _ hk => hk.elim) ?aF ?aO ?aB ?aS ?aL ?_; (case aP => exact k61_mkM _ _ _ (⟨a1_0, a1_1⟩ : S61)); (case aB => exact (by repeat (first | (with_reducible first | exact HB.out | apply below_alloc | apply pw_below_drewN | apply below_drew1 | refine below_set ?_ GE132.out) | exact HB.out))); (case aF => exact (fun k_ hk => Kd.freshB (g := gb132) (o := .cells #[.int .u64 a1_0, .int .u64 a1_1] 61 (0, 0)) (by (with_reducible repeat (first | refine blk_drewN ?_ _ | refine blk_drew ?_ | refine blk_alloc ?_ _)); exact BK132.out) k_ hk)); (case aO => exact (by (with_reducible repeat (first | apply Kd.R_alloc | apply Kd.R_drewN | apply Kd.R_drew)); exact HO_5.out)); (case aS => exact (below_size (by repeat (first | (with_reducible first | exact HB.out | apply below_alloc | apply pw_below_drewN | apply below_drew1 | refine below_set ?_ GE132.out) | exact HB.out)))); (case aL => have := LMc31.out; omega); intro v134 w33 ho hb hg hat; rw [← Ny133.out] at ho; have n0_ := Aside0.mk (blk_grown (g := gb132) (o := .cells #[.int .u64 a1_0, .int .u64 a1_1] 61 (0, 0)) (by (with_reducible repeat (first | refine blk_drewN ?_ _ | refine blk_drew ?_ | refine blk_alloc ?_ _)); exact BK132.out) hg (Kd.R_away HO_5.out (fun _ hk => hk))); have n1_ := Aside0.mk (hb); have n2_ := Aside0.mk (ho); clear BK132; clear HB; clear HO_5; have BK132 := n0_; have HB := n1_; have HO135 := n2_; clear n0_ n1_ n2_; clear ho hb hg hat))
            repeat (go_quiet (first | ((with_reducible refine gate_builtin (b := .append) (xs := #[.tmp 47, .tmp 49]) rfl ?_); at_builtin; refine Kd.R_append k61 (w0 := w) w.heap.size rfl (.tmp 47) (.tmp 49) 31 61 (.agg #[(.int .u64 0), (.int .u64 0)]) 16 rfl Try.underlying31 info61 rfl (by decide) (by omega) u5 x5_1 (⟨a1_0, a1_1⟩ : S61) [.int .u64 a1_0, .int .u64 a1_1] (fun k_ => k_ ≠ gb132) (fun _ => False) rfl rfl ?aP (fun _ hk => hk.elim) ?aF ?aO ?aB ?aS ?aL ?_; (case aP => exact k61_mkM _ _ _ (⟨a1_0, a1_1⟩ : S61)); (case aB => exact (by repeat (first | (with_reducible first | exact HB.out | apply below_alloc | apply pw_below_drewN | apply below_drew1 | refine below_set ?_ GE132.out) | exact HB.out))); (case aF => exact (fun k_ hk => Kd.freshB (g := gb132) (o := .cells #[.int .u64 a1_0, .int .u64 a1_1] 61 (0, 0)) (by (with_reducible repeat (first | refine blk_drewN ?_ _ | refine blk_drew ?_ | refine blk_alloc ?_ _)); exact BK132.out) k_ hk)); (case aO => exact (by (with_reducible repeat (first | apply Kd.R_alloc | apply Kd.R_drewN | apply Kd.R_drew)); exact HO_5.out)); (case aS => exact (below_size (by repeat (first | (with_reducible first | exact HB.out | apply below_alloc | apply pw_below_drewN | apply below_drew1 | refine below_set ?_ GE132.out) | exact HB.out)))); (case aL => have := LMc31.out; omega); intro v134 w33 ho hb hg hat; rw [← Ny133.out] at ho; have n0_ := Aside0.mk (blk_grown (g := gb132) (o := .cells #[.int .u64 a1_0, .int .u64 a1_1] 61 (0, 0)) (by (with_reducible repeat (first | refine blk_drewN ?_ _ | refine blk_drew ?_ | refine blk_alloc ?_ _)); exact BK132.out) hg (Kd.R_away HO_5.out (fun _ hk => hk))); have n1_ := Aside0.mk (hb); have n2_ := Aside0.mk (ho); clear BK132; clear HB; clear HO_5; have BK132 := n0_; have HB := n1_; have HO135 := n2_; clear n0_ n1_ n2_; clear ho hb hg hat)); try go_wp2_with (first | ((with_reducible refine gate_builtin (b := .append) (xs := #[.tmp 47, .tmp 49]) rfl ?_); at_builtin; refine Kd.R_append k61 (w0 := w) w.heap.size rfl (.tmp 47) (.tmp 49) 31 61 (.agg #[(.int .u64 0), (.int .u64 0)]) 16 rfl Try.underlying31 info61 rfl (by decide) (by omega) u5 x5_1 (⟨a1_0, a1_1⟩ : S61) [.int .u64 a1_0, .int .u64 a1_1] (fun k_ => k_ ≠ gb132) (fun _ => False) rfl rfl ?aP (fun _ hk => hk.elim) ?aF ?aO ?aB ?aS ?aL ?_; (case aP => exact k61_mkM _ _ _ (⟨a1_0, a1_1⟩ : S61)); (case aB => exact (by repeat (first | (with_reducible first | exact HB.out | apply below_alloc | apply pw_below_drewN | apply below_drew1 | refine below_set ?_ GE132.out) | exact HB.out))); (case aF => exact (fun k_ hk => Kd.freshB (g := gb132) (o := .cells #[.int .u64 a1_0, .int .u64 a1_1] 61 (0, 0)) (by (with_reducible repeat (first | refine blk_drewN ?_ _ | refine blk_drew ?_ | refine blk_alloc ?_ _)); exact BK132.out) k_ hk)); (case aO => exact (by (with_reducible repeat (first | apply Kd.R_alloc | apply Kd.R_drewN | apply Kd.R_drew)); exact HO_5.out)); (case aS => exact (below_size (by repeat (first | (with_reducible first | exact HB.out | apply below_alloc | apply pw_below_drewN | apply below_drew1 | refine below_set ?_ GE132.out) | exact HB.out)))); (case aL => have := LMc31.out; omega); intro v134 w33 ho hb hg hat; rw [← Ny133.out] at ho; have n0_ := Aside0.mk (blk_grown (g := gb132) (o := .cells #[.int .u64 a1_0, .int .u64 a1_1] 61 (0, 0)) (by (with_reducible repeat (first | refine blk_drewN ?_ _ | refine blk_drew ?_ | refine blk_alloc ?_ _)); exact BK132.out) hg (Kd.R_away HO_5.out (fun _ hk => hk))); have n1_ := Aside0.mk (hb); have n2_ := Aside0.mk (ho); clear BK132; clear HB; clear HO_5; have BK132 := n0_; have HB := n1_; have HO135 := n2_; clear n0_ n1_ n2_; clear ho hb hg hat)))
            go_ret
            exact ⟨_, by first | rfl | (simp [errW_none, errW_some] <;> rfl) | (simp [*, errW_none, errW_some] <;> rfl), by (with_reducible repeat (first | apply Kd.R_alloc | apply Kd.R_drewN | apply Kd.R_drew)); exact Kd.R_mono HO135.out (fun _ hk => trivial), by repeat (first | (with_reducible first | exact HB.out | apply below_alloc | apply pw_below_drewN | apply below_drew1 | refine below_set ?_ GE132.out) | exact HB.out)⟩
          · rw [if_neg c31] at H
            exact absurd H (by simp)
def stepstoneref07_Without.l0 : Nat → List (S61) → Int → List (S61) → Int → Option ((List (S61)))
  | 0, _, _, _, _ => none
  | k + 1, x0, x1, x5, x6 => if x6 < (x0.length : Int) then (if 0 ≤ x6 then (if ((rd_T61 x0 x6).f0) = x1 then (stepstoneref07_Without.l0 k x0 x1 x5 (wrap64 (x6 + 1))) else (if x5.length < 8796093022208 then (stepstoneref07_Without.l0 k x0 x1 (x5 ++ [(⟨(rd_T61 x0 x6).f0, (rd_T61 x0 x6).f1⟩ : S61)]) (wrap64 (x6 + 1))) else (none))) else (none)) else (some x5)
def stepstoneref07_Without.f (k : Nat) (l0 : List (S61)) (a1 : Int) : Option ((List (S61))) := stepstoneref07_Without.l0 k l0 a1 ([] : List (S61)) 0
set_option maxHeartbeats 8000000 in
set_option maxRecDepth 100000 in
theorem stepstoneref07_Without.calls (k : Nat) (A0 : Option Addr) (c0 : Nat) (l0 : List (S61)) (a1 : Int) (r : List (S61)) (w : World) (hr0 : Kd.C k61 w A0 l0.length l0) (hc0 : l0.length ≤ c0) (h : stepstoneref07_Without.f k l0 a1 = some r) :
    Calls Try.prog 55 #[.slice A0 l0.length c0, .int .u64 a1] w fun e w' => ∃ v0_ : Value, e = .returned (v0_) ∧ Kd.R k61 61 w' w.heap.size (fun _ => True) v0_ r ∧ Below w.heap.size w w' := by
  have hu61 := Try.underlying61
  have HR0 := Aside0.mk hr0
  have HC0 := Aside0.mk hc0
  clear hr0 hc0
  have HB := Aside0.mk (Below.refl w.heap.size w)
  have H : (stepstoneref07_Without.l0 k l0 a1 ([] : List (S61)) 0) = some r := h
  clear h
  have H' := Aside0.mk H
  clear H
  go_enter Try.func55, Try.ntmps55
  go_wp2
  go_loopg [5, 6] k (fun kq v5 v6 w' => ∃ (x5_1 : List (S61)) (x6_1 : Int), v6 = .int .i64 x6_1 ∧ Aside0 (stepstoneref07_Without.l0 kq l0 a1 x5_1 x6_1 = some r) ∧ Aside0 (kq ≤ k) ∧ Aside0 (Kd.R k61 61 w' w.heap.size (fun _ => True) v5 x5_1) ∧ Aside0 (Below w.heap.size w w'))
  case atStart => exact ⟨(([] : List (S61))), (0), (by first | rfl | (simp; done) | (simp [*]; done)), H', ⟨Nat.le_refl _⟩, ⟨by first | exact Kd.R_nil _ _ _ _ _ | exact Kd.N_nil _ _ _ _ _ | exact Kd.V_nil _ _ _ _ _ | exact Kd.Q_nil _ _ _ _ _ | exact Kd.S_nil _ _ _ _ _⟩, ⟨by repeat (first | (with_reducible first | exact HB.out | apply below_alloc | apply pw_below_drewN | apply below_drew1) | exact HB.out)⟩⟩
  case round =>
    clear H'
    try clear p2
    obtain ⟨x5_1, x6_1, rfl, HA, HK1, HO_5, HB⟩ := hrel
    cases gk with
    | zero => exact absurd HA.out (by simp [stepstoneref07_Without.l0])
    | succ k1 =>
      have H := HA.out
      clear HA
      simp only [stepstoneref07_Without.l0] at H
      by_cases c3 : x6_1 < (l0.length : Int)
      · rw [if_pos c3] at H
        have c3b0 : decide (x6_1 < (l0.length : Int)) = true := decide_eq_true c3
        clear c3
        by_cases c4 : 0 ≤ x6_1
        · rw [if_pos c4] at H
          have c4b0 : decide (0 ≤ x6_1) = true := decide_eq_true c4
          clear c4
          by_cases c5 : ((rd_T61 l0 x6_1).f0) = a1
          · rw [if_pos c5] at H
            have c5b0 : (((rd_T61 l0 x6_1).f0) == a1) = true := beq_iff_eq.mpr c5
            have c5b1 : (((rd_T61 l0 x6_1).f0) != a1) = false := bne_eq_false_iff_eq.mpr c5
            clear c5
            have H' := Aside0.mk H
            clear H
            have p150 : 0 ≤ (x6_1 : Int) := of_decide_eq_true (by first | (with_reducible assumption) | assumption)
            have q150 : x6_1 < (l0.length : Int) := of_decide_eq_true (by first | (with_reducible assumption) | assumption)
            obtain ⟨ad150, e150, hx150_0, hx150_1⟩ := at_T61 HR0.out x6_1 p150 q150
            cases e150
            replace hx150_0 := (HB.out.cell (World.block_lt_of_cell? w _ hx150_0)).trans hx150_0
            replace hx150_1 := (HB.out.cell (World.block_lt_of_cell? w _ hx150_1)).trans hx150_1
            replace p150 := eq_true p150
            replace q150 := eq_true q150
            go_wp2
            go_roundg k1
            case measure => have := HK1.out; omega
            case rel => exact ⟨(x5_1), (wrap64 (x6_1 + 1)), (by first | rfl | (simp; done) | (simp [*]; done)), H', ⟨by have := HK1.out; omega⟩, ⟨by (with_reducible repeat (first | apply Kd.R_alloc | apply Kd.R_drewN | apply Kd.R_drew)); exact HO_5.out⟩, ⟨by repeat (first | (with_reducible first | exact HB.out | apply below_alloc | apply pw_below_drewN | apply below_drew1) | exact HB.out)⟩⟩
          · rw [if_neg c5] at H
            have c5b0 : (((rd_T61 l0 x6_1).f0) == a1) = false := beq_eq_false_iff_ne.mpr c5
            have c5b1 : (((rd_T61 l0 x6_1).f0) != a1) = true := bne_iff_ne.mpr c5
            by_cases c6 : x5_1.length < 8796093022208
            · rw [if_pos c6] at H
              have LMc6 := Aside0.mk c6
              clear c6
              obtain ⟨y152, hy152⟩ : ∃ y_ : List (S61), y_ = (x5_1 ++ [(⟨(rd_T61 l0 x6_1).f0, (rd_T61 l0 x6_1).f1⟩ : S61)]) := ⟨_, rfl⟩
              replace H : (stepstoneref07_Without.l0 k1 l0 a1 y152 (wrap64 (x6_1 + 1))) = some r := by first | (rw [hy152]; with_reducible exact H) | (have H2_ := (Option.bind_some _ _).symm.trans H; rw [hy152]; with_reducible exact H2_) | (have H2_ := (Option.bind_some _ _).symm.trans H; with_reducible exact H2_) | with_reducible exact H | (rw [hy152]; exact H) | exact H
              have Ny152 := Aside0.mk hy152
              clear hy152
              have H' := Aside0.mk H
              clear H
              have p150 : 0 ≤ (x6_1 : Int) := of_decide_eq_true (by first | (with_reducible assumption) | assumption)
              have q150 : x6_1 < (l0.length : Int) := of_decide_eq_true (by first | (with_reducible assumption) | assumption)
              obtain ⟨ad150, e150, hx150_0, hx150_1⟩ := at_T61 HR0.out x6_1 p150 q150
              cases e150
              replace hx150_0 := (HB.out.cell (World.block_lt_of_cell? w _ hx150_0)).trans hx150_0
              replace hx150_1 := (HB.out.cell (World.block_lt_of_cell? w _ hx150_1)).trans hx150_1
              replace p150 := eq_true p150
              replace q150 := eq_true q150
              have p151 : 0 ≤ (x6_1 : Int) := of_decide_eq_true (by first | (with_reducible assumption) | assumption)
              have q151 : x6_1 < (l0.length : Int) := of_decide_eq_true (by first | (with_reducible assumption) | assumption)
              obtain ⟨ad151, e151, hx151_0, hx151_1⟩ := at_T61 HR0.out x6_1 p151 q151
              obtain rfl : ad150 = ad151 := (by injection e151)
              replace hx151_0 := (HB.out.cell (World.block_lt_of_cell? w _ hx151_0)).trans hx151_0
              replace hx151_1 := (HB.out.cell (World.block_lt_of_cell? w _ hx151_1)).trans hx151_1
              replace p151 := eq_true p151
              replace q151 := eq_true q151
              go_wp2_with (first | ((with_reducible refine gate_builtin (b := .append) (xs := #[.tmp 20, .tmp 25]) rfl ?_); at_builtin; refine Kd.R_append k61 (w0 := w) w.heap.size rfl (.tmp 20) (.tmp 25) 31 61 (.agg #[(.int .u64 0), (.int .u64 0)]) 16 rfl Try.underlying31 info61 rfl (by decide) (by omega) u5 x5_1 (⟨(rd_T61 l0 x6_1).f0, (rd_T61 l0 x6_1).f1⟩ : S61) [.int .u64 ((rd_T61 l0 x6_1).f0), .int .u64 ((rd_T61 l0 x6_1).f1)] (fun _ => True) (fun _ => False) rfl rfl ?aP (fun _ hk => hk.elim) ?aF ?aO ?aB ?aS ?aL ?_; (case aP => exact k61_mkM _ _ _ (⟨(rd_T61 l0 x6_1).f0, (rd_T61 l0 x6_1).f1⟩ : S61)); (case aB => exact (by repeat (first | (with_reducible first | exact HB.out | apply below_alloc | apply pw_below_drewN | apply below_drew1) | exact HB.out))); (case aF => exact (fun _ _ => trivial)); (case aO => exact (by (with_reducible repeat (first | apply Kd.R_alloc | apply Kd.R_drewN | apply Kd.R_drew)); exact HO_5.out)); (case aS => exact (below_size (by repeat (first | (with_reducible first | exact HB.out | apply below_alloc | apply pw_below_drewN | apply below_drew1) | exact HB.out)))); (case aL => have := LMc6.out; omega); intro v153 w7 ho hb hg hat; rw [← Ny152.out] at ho; have n0_ := Aside0.mk (hb); have n1_ := Aside0.mk (ho); clear HB; clear HO_5; have HB := n0_; have HO154 := n1_; clear n0_ n1_; clear ho hb hg hat))
              go_roundg k1
              case measure => have := HK1.out; omega
              case rel => exact ⟨(y152), (wrap64 (x6_1 + 1)), (by first | rfl | (simp; done) | (simp [*]; done)), H', ⟨by have := HK1.out; omega⟩, ⟨by (with_reducible repeat (first | apply Kd.R_alloc | apply Kd.R_drewN | apply Kd.R_drew)); exact HO154.out⟩, ⟨by repeat (first | (with_reducible first | exact HB.out | apply below_alloc | apply pw_below_drewN | apply below_drew1) | exact HB.out)⟩⟩
            · rw [if_neg c6] at H
              exact absurd H (by simp)
        · rw [if_neg c4] at H
          exact absurd H (by simp)
      · rw [if_neg c3] at H
        have c3b0 : decide (x6_1 < (l0.length : Int)) = false := decide_eq_false c3
        clear c3
        obtain rfl := Option.some.inj H
        go_wp2
        go_ret
        exact ⟨_, by first | rfl | (simp [errW_none, errW_some] <;> rfl) | (simp [*, errW_none, errW_some] <;> rfl), by (with_reducible repeat (first | apply Kd.R_alloc | apply Kd.R_drewN | apply Kd.R_drew)); exact HO_5.out, by repeat (first | (with_reducible first | exact HB.out | apply below_alloc | apply pw_below_drewN | apply below_drew1) | exact HB.out)⟩
def stepstoneref07_get.l0 : Nat → List (S61) → Int → Int → Option (Bool × Bool × Int × List Int)
  | 0, _, _, _ => none
  | k + 1, x0, x1, x5 => if x5 < (x0.length : Int) then (if 0 ≤ x5 then (if ((rd_T61 x0 x5).f0) = x1 then (some (false, true, (rd_T61 x0 x5).f1, ([] : List Int))) else (stepstoneref07_get.l0 k x0 x1 (wrap64 (x5 + 1)))) else (none)) else (some (false, false, 0, ([] : List Int)))
def stepstoneref07_get.f (k : Nat) (l0 : List (S61)) (a1 : Int) : Option (Bool × Bool × Int × List Int) := stepstoneref07_get.l0 k l0 a1 0
set_option maxHeartbeats 8000000 in
set_option maxRecDepth 100000 in
theorem stepstoneref07_get.calls (k : Nat) (A0 : Option Addr) (c0 : Nat) (l0 : List (S61)) (a1 : Int) (r1 : Bool) (r2 : Bool) (r3 : Int) (r4 : List Int) (w : World) (hr0 : Kd.C k61 w A0 l0.length l0) (hc0 : l0.length ≤ c0) (h : stepstoneref07_get.f k l0 a1 = some (r1, r2, r3, r4)) :
    Calls Try.prog 53 #[.slice A0 l0.length c0, .int .u64 a1] w fun e w' => ∃ v3_ : Value, e = .returned (.agg #[.bool r1, .bool r2, .int .u64 r3, v3_]) ∧ Kd.R (Kd.int .u64) 41 w' w.heap.size (fun _ => True) v3_ r4 ∧ Below w.heap.size w w' := by
  have hu46 := Try.underlying46
  have HR0 := Aside0.mk hr0
  have HC0 := Aside0.mk hc0
  clear hr0 hc0
  have HB := Aside0.mk (Below.refl w.heap.size w)
  have H : (stepstoneref07_get.l0 k l0 a1 0) = some (r1, r2, r3, r4) := h
  clear h
  have H' := Aside0.mk H
  clear H
  go_enter Try.func53, Try.ntmps53
  go_wp2_with (first | ((with_reducible refine gate_dst (N := 4) rfl ?_); refine box_event ?hg (N := 4) ?hd (cs := #[.bool false, .bool false, .int .u64 0, .slice none 0 0]) (t := 46) ?hr ?_; (case hd => rfl); (case hg => rfl); (case hr => first | (go_simp; done) | (go_simp; rfl)); intro gb155 hg w3 hbox hb; have n0_ := Aside0.mk (below_step (by repeat (first | (with_reducible first | exact HB.out | apply below_alloc | apply pw_below_drewN | apply below_drew1) | exact HB.out)) hb); have n1_ := Aside0.mk (hbox); have n2_ := Aside0.mk ((by rw [hg]; exact (below_size (by repeat (first | (with_reducible first | exact HB.out | apply below_alloc | apply pw_below_drewN | apply below_drew1) | exact HB.out))) : w.heap.size ≤ gb155)); have n3_ := Aside0.mk ((by rw [hg]; exact (below_size (by repeat (first | (with_reducible first | exact HB.out | apply below_alloc | apply pw_below_drewN | apply below_drew1) | exact HB.out))) : w.heap.size ≤ gb155)); clear HB; have HB := n0_; have BK155 := n1_; have GW155 := n2_; have GE155 := n3_; clear n0_ n1_ n2_ n3_; clear hb hbox hg))
  go_loopg [5] k (fun kq v5 w' => ∃ (x5_1 : Int) (x156000_1 : Bool) (x156001_1 : Bool) (x156002_1 : Int), v5 = .int .i64 x5_1 ∧ Aside0 (stepstoneref07_get.l0 kq l0 a1 x5_1 = some (r1, r2, r3, r4)) ∧ Aside0 (kq ≤ k) ∧ Aside0 (w'.heap[gb155]? = some (.cells #[.bool x156000_1, .bool x156001_1, .int .u64 x156002_1, (.slice none 0 0)] 46 (0, 0))) ∧ Aside0 (Below w.heap.size w w'))
  case atStart => exact ⟨(0), (false), (false), (0), (by first | rfl | (simp; done) | (simp [*]; done)), H', ⟨Nat.le_refl _⟩, ⟨by (with_reducible repeat (first | refine blk_drewN ?_ _ | refine blk_drew ?_ | refine blk_alloc ?_ _)); exact BK155.out⟩, ⟨by repeat (first | (with_reducible first | exact HB.out | apply below_alloc | apply pw_below_drewN | apply below_drew1 | refine below_set ?_ GE155.out) | exact HB.out)⟩⟩
  case round =>
    clear H'
    try clear p2
    obtain ⟨x5_1, x156000_1, x156001_1, x156002_1, rfl, HA, HK1, BK155, HB⟩ := hrel
    cases gk with
    | zero => exact absurd HA.out (by simp [stepstoneref07_get.l0])
    | succ k1 =>
      have H := HA.out
      clear HA
      simp only [stepstoneref07_get.l0] at H
      by_cases c4 : x5_1 < (l0.length : Int)
      · rw [if_pos c4] at H
        have c4b0 : decide (x5_1 < (l0.length : Int)) = true := decide_eq_true c4
        clear c4
        by_cases c5 : 0 ≤ x5_1
        · rw [if_pos c5] at H
          have c5b0 : decide (0 ≤ x5_1) = true := decide_eq_true c5
          clear c5
          by_cases c6 : ((rd_T61 l0 x5_1).f0) = a1
          · rw [if_pos c6] at H
            have c6b0 : (((rd_T61 l0 x5_1).f0) == a1) = true := beq_iff_eq.mpr c6
            have c6b1 : (((rd_T61 l0 x5_1).f0) != a1) = false := bne_eq_false_iff_eq.mpr c6
            clear c6
            simp only [Option.some.injEq, Prod.mk.injEq] at H
            obtain ⟨rfl, rfl, rfl, rfl⟩ := H
            have p156 : 0 ≤ (x5_1 : Int) := of_decide_eq_true (by first | (with_reducible assumption) | assumption)
            have q156 : x5_1 < (l0.length : Int) := of_decide_eq_true (by first | (with_reducible assumption) | assumption)
            obtain ⟨ad156, e156, hx156_0, hx156_1⟩ := at_T61 HR0.out x5_1 p156 q156
            cases e156
            replace hx156_0 := (HB.out.cell (World.block_lt_of_cell? w _ hx156_0)).trans hx156_0
            replace hx156_1 := (HB.out.cell (World.block_lt_of_cell? w _ hx156_1)).trans hx156_1
            replace p156 := eq_true p156
            replace q156 := eq_true q156
            have p157 : 0 ≤ (x5_1 : Int) := of_decide_eq_true (by first | (with_reducible assumption) | assumption)
            have q157 : x5_1 < (l0.length : Int) := of_decide_eq_true (by first | (with_reducible assumption) | assumption)
            obtain ⟨ad157, e157, hx157_0, hx157_1⟩ := at_T61 HR0.out x5_1 p157 q157
            obtain rfl : ad156 = ad157 := (by injection e157)
            replace hx157_0 := (HB.out.cell (World.block_lt_of_cell? w _ hx157_0)).trans hx157_0
            replace hx157_1 := (HB.out.cell (World.block_lt_of_cell? w _ hx157_1)).trans hx157_1
            replace p157 := eq_true p157
            replace q157 := eq_true q157
            have hcz7_0 : wr.cell? ⟨gb155, 0, none⟩ = some (.bool x156000_1) := (blk_cell BK155.out 0).trans rfl
            have hcz7_1 : wr.cell? ⟨gb155, 1, none⟩ = some (.bool x156001_1) := (blk_cell BK155.out 1).trans rfl
            have hcz7_2 : wr.cell? ⟨gb155, 2, none⟩ = some (.int .u64 x156002_1) := (blk_cell BK155.out 2).trans rfl
            have hcz7_3 : wr.cell? ⟨gb155, 3, none⟩ = some (.slice none 0 0) := (blk_cell BK155.out 3).trans rfl
            have hfz7_0 := blk_frozen BK155.out 0
            have hfz7_1 := blk_frozen BK155.out 1
            have hfz7_2 := blk_frozen BK155.out 2
            have hfz7_3 := blk_frozen BK155.out 3
            go_wp2
            refine bodyPost_ret (results_cell_row rfl _ _ gb155 46 #[.bool false, .bool true, .int .u64 ((rd_T61 l0 x5_1).f1), .slice none 0 0] (0, 0) _ rfl (by (with_reducible repeat (first | refine blk_drewN ?_ _ | refine blk_drew ?_ | refine blk_alloc ?_ _)); refine blk_put (cs := #[.bool false, .bool true, .int .u64 ((rd_T61 l0 x5_1).f1), .slice none 0 0]) ?_ 3 _ rfl; (with_reducible repeat (first | refine blk_drewN ?_ _ | refine blk_drew ?_ | refine blk_alloc ?_ _)); refine blk_put (cs := #[.bool false, .bool true, .int .u64 x156002_1, .slice none 0 0]) ?_ 2 _ rfl; (with_reducible repeat (first | refine blk_drewN ?_ _ | refine blk_drew ?_ | refine blk_alloc ?_ _)); refine blk_put (cs := #[.bool false, .bool x156001_1, .int .u64 x156002_1, .slice none 0 0]) ?_ 1 _ rfl; (with_reducible repeat (first | refine blk_drewN ?_ _ | refine blk_drew ?_ | refine blk_alloc ?_ _)); refine blk_put (cs := #[.bool x156000_1, .bool x156001_1, .int .u64 x156002_1, .slice none 0 0]) ?_ 0 _ rfl; (with_reducible repeat (first | refine blk_drewN ?_ _ | refine blk_drew ?_ | refine blk_alloc ?_ _)); exact BK155.out) Try.underlying46 rfl (by kernel_rfl)) rfl ?_
            exact ⟨_, by first | rfl | (simp [errW_none, errW_some] <;> rfl) | (simp [*, errW_none, errW_some] <;> rfl), by first | exact Kd.R_nil _ _ _ _ _ | exact Kd.N_nil _ _ _ _ _ | exact Kd.V_nil _ _ _ _ _ | exact Kd.Q_nil _ _ _ _ _ | exact Kd.S_nil _ _ _ _ _, by repeat (first | (with_reducible first | exact HB.out | apply below_alloc | apply pw_below_drewN | apply below_drew1 | refine below_set ?_ GE155.out) | exact HB.out)⟩
          · rw [if_neg c6] at H
            have c6b0 : (((rd_T61 l0 x5_1).f0) == a1) = false := beq_eq_false_iff_ne.mpr c6
            have c6b1 : (((rd_T61 l0 x5_1).f0) != a1) = true := bne_iff_ne.mpr c6
            have H' := Aside0.mk H
            clear H
            have p156 : 0 ≤ (x5_1 : Int) := of_decide_eq_true (by first | (with_reducible assumption) | assumption)
            have q156 : x5_1 < (l0.length : Int) := of_decide_eq_true (by first | (with_reducible assumption) | assumption)
            obtain ⟨ad156, e156, hx156_0, hx156_1⟩ := at_T61 HR0.out x5_1 p156 q156
            cases e156
            replace hx156_0 := (HB.out.cell (World.block_lt_of_cell? w _ hx156_0)).trans hx156_0
            replace hx156_1 := (HB.out.cell (World.block_lt_of_cell? w _ hx156_1)).trans hx156_1
            replace p156 := eq_true p156
            replace q156 := eq_true q156
            go_wp2
            go_roundg k1
            case measure => have := HK1.out; omega
            case rel => exact ⟨(wrap64 (x5_1 + 1)), (x156000_1), (x156001_1), (x156002_1), (by first | rfl | (simp; done) | (simp [*]; done)), H', ⟨by have := HK1.out; omega⟩, ⟨by (with_reducible repeat (first | refine blk_drewN ?_ _ | refine blk_drew ?_ | refine blk_alloc ?_ _)); exact BK155.out⟩, ⟨by repeat (first | (with_reducible first | exact HB.out | apply below_alloc | apply pw_below_drewN | apply below_drew1 | refine below_set ?_ GE155.out) | exact HB.out)⟩⟩
        · rw [if_neg c5] at H
          exact absurd H (by simp)
      · rw [if_neg c4] at H
        have c4b0 : decide (x5_1 < (l0.length : Int)) = false := decide_eq_false c4
        clear c4
        simp only [Option.some.injEq, Prod.mk.injEq] at H
        obtain ⟨rfl, rfl, rfl, rfl⟩ := H
        have hcz8_0 : wr.cell? ⟨gb155, 0, none⟩ = some (.bool x156000_1) := (blk_cell BK155.out 0).trans rfl
        have hcz8_1 : wr.cell? ⟨gb155, 1, none⟩ = some (.bool x156001_1) := (blk_cell BK155.out 1).trans rfl
        have hcz8_2 : wr.cell? ⟨gb155, 2, none⟩ = some (.int .u64 x156002_1) := (blk_cell BK155.out 2).trans rfl
        have hcz8_3 : wr.cell? ⟨gb155, 3, none⟩ = some (.slice none 0 0) := (blk_cell BK155.out 3).trans rfl
        have hfz8_0 := blk_frozen BK155.out 0
        have hfz8_1 := blk_frozen BK155.out 1
        have hfz8_2 := blk_frozen BK155.out 2
        have hfz8_3 := blk_frozen BK155.out 3
        go_wp2
        refine bodyPost_ret (results_cell_row rfl _ _ gb155 46 #[.bool false, .bool false, .int .u64 0, .slice none 0 0] (0, 0) _ rfl (by (with_reducible repeat (first | refine blk_drewN ?_ _ | refine blk_drew ?_ | refine blk_alloc ?_ _)); refine blk_put (cs := #[.bool false, .bool false, .int .u64 0, .slice none 0 0]) ?_ 3 _ rfl; (with_reducible repeat (first | refine blk_drewN ?_ _ | refine blk_drew ?_ | refine blk_alloc ?_ _)); refine blk_put (cs := #[.bool false, .bool false, .int .u64 x156002_1, .slice none 0 0]) ?_ 2 _ rfl; (with_reducible repeat (first | refine blk_drewN ?_ _ | refine blk_drew ?_ | refine blk_alloc ?_ _)); refine blk_put (cs := #[.bool false, .bool x156001_1, .int .u64 x156002_1, .slice none 0 0]) ?_ 1 _ rfl; (with_reducible repeat (first | refine blk_drewN ?_ _ | refine blk_drew ?_ | refine blk_alloc ?_ _)); refine blk_put (cs := #[.bool x156000_1, .bool x156001_1, .int .u64 x156002_1, .slice none 0 0]) ?_ 0 _ rfl; (with_reducible repeat (first | refine blk_drewN ?_ _ | refine blk_drew ?_ | refine blk_alloc ?_ _)); exact BK155.out) Try.underlying46 rfl (by kernel_rfl)) rfl ?_
        exact ⟨_, by first | rfl | (simp [errW_none, errW_some] <;> rfl) | (simp [*, errW_none, errW_some] <;> rfl), by first | exact Kd.R_nil _ _ _ _ _ | exact Kd.N_nil _ _ _ _ _ | exact Kd.V_nil _ _ _ _ _ | exact Kd.Q_nil _ _ _ _ _ | exact Kd.S_nil _ _ _ _ _, by repeat (first | (with_reducible first | exact HB.out | apply below_alloc | apply pw_below_drewN | apply below_drew1 | refine below_set ?_ GE155.out) | exact HB.out)⟩
end Go.Proofs.Ytiihjijmmephlaa.GHist
namespace Go.Proofs.Ytiihjijmmephlaa.GHist
open Go.RowKit Go.Proofs.YtiihjijmmephlaaW.PrintWords Go.Proofs.YtiihjijmmephlaaW.PrintLast Go.Proofs.YtiihjijmmephlaaW.PrintMore
attribute [local go_sem] max2_int min2_int max_two min_two max_three min_three max_four min_four   -- for this text's walks alone
set_option linter.unusedVariables false
set_option linter.unusedSimpArgs false
attribute [local go_sem high] eqA61
mutual
def stepstoneref07_Same.j0 : Nat → Bool → Bool → Bool → Int → List Int → Bool → Bool → Int → List Int → Option (Bool)
  | 0, _, _, _, _, _, _, _, _, _ => none
  | k + 1, x33, x159000, x159001, x159002, x159003, x160000, x160001, x160002, x160003 => if x33 = true then (some false) else (stepstoneref07_Same.l0 k 0 x159000 x159001 x159002 x159003 x160000 x160001 x160002 x160003)
def stepstoneref07_Same.l0 : Nat → Int → Bool → Bool → Int → List Int → Bool → Bool → Int → List Int → Option (Bool)
  | 0, _, _, _, _, _, _, _, _, _ => none
  | k + 1, x5, x159000, x159001, x159002, x159003, x160000, x160001, x160002, x160003 => if x5 < (x159003.length : Int) then (if 0 ≤ x5 then (if x5 < (x160003.length : Int) then (if (rd x159003 x5) = (rd x160003 x5) then (stepstoneref07_Same.l0 k (wrap64 (x5 + 1)) x159000 x159001 x159002 x159003 x160000 x160001 x160002 x160003) else (some false)) else (none)) else (none)) else (some true)
end
def cmp_isNaN_int.f (a0 : Int) : Option (Bool) := some (a0 != a0)
set_option maxHeartbeats 8000000 in
set_option maxRecDepth 100000 in
theorem cmp_isNaN_int.calls (a0 : Int) (r : Bool) (w : World) (h : cmp_isNaN_int.f a0 = some r) :
    Calls Try.prog 52 #[.int .i64 a0] w fun e w' => e = .returned (.bool r) ∧ Drawn0 w w' := by
  have H : (some (a0 != a0)) = some r := h
  clear h
  obtain rfl := Option.some.inj H
  go_enter Try.func52, Try.ntmps52
  go_wp2
  go_ret
  exact ⟨by first | rfl | (simp; done) | (simp [*]; done), by repeat (first | exact Drawn0.refl _ | apply Drawn0.step)⟩
end Go.Proofs.Ytiihjijmmephlaa.GHist
namespace Go.Proofs.Ytiihjijmmephlaa.GHist
open Go.RowKit Go.Proofs.YtiihjijmmephlaaW.PrintWords Go.Proofs.YtiihjijmmephlaaW.PrintLast Go.Proofs.YtiihjijmmephlaaW.PrintMore
attribute [local go_sem] max2_int min2_int max_two min_two max_three min_three max_four min_four   -- for this text's walks alone
set_option linter.unusedVariables false
set_option linter.unusedSimpArgs false
def cmp_Compare_int.f (a0 : Int) (a1 : Int) : Option (Int) := (cmp_isNaN_int.f a0).bind fun t169 => ((cmp_isNaN_int.f a1).bind fun t170 => (if t169 = true then (if t170 = true then (some 0) else (some (-1))) else (if t170 = true then (some 1) else (if a0 < a1 then (some (-1)) else (if a0 > a1 then (some 1) else (some 0))))))
set_option maxHeartbeats 8000000 in
set_option maxRecDepth 100000 in
theorem cmp_Compare_int.calls (a0 : Int) (a1 : Int) (r : Int) (w : World) (h : cmp_Compare_int.f a0 a1 = some r) :
    Calls Try.prog 28 #[.int .i64 a0, .int .i64 a1] w fun e w' => e = .returned (.int .i64 r) ∧ Drawn0 w w' := by
  have H : ((cmp_isNaN_int.f a0).bind fun t169 => ((cmp_isNaN_int.f a1).bind fun t170 => (if t169 = true then (if t170 = true then (some 0) else (some (-1))) else (if t170 = true then (some 1) else (if a0 < a1 then (some (-1)) else (if a0 > a1 then (some 1) else (some 0))))))) = some r := h
  clear h
  replace H := Option.bind_eq_some_iff.mp H
  obtain ⟨t169, A30, H⟩ := H
  replace H : ((cmp_isNaN_int.f a1).bind fun t170 => (if t169 = true then (if t170 = true then (some 0) else (some (-1))) else (if t170 = true then (some 1) else (if a0 < a1 then (some (-1)) else (if a0 > a1 then (some 1) else (some 0)))))) = some r := H
  have A3 := Aside0.mk A30
  clear A30
  replace H := Option.bind_eq_some_iff.mp H
  obtain ⟨t170, A40, H⟩ := H
  replace H : (if t169 = true then (if t170 = true then (some 0) else (some (-1))) else (if t170 = true then (some 1) else (if a0 < a1 then (some (-1)) else (if a0 > a1 then (some 1) else (some 0))))) = some r := H
  have A4 := Aside0.mk A40
  clear A40
  by_cases c5 : t169 = true
  · subst c5
    have H1 : (if t170 = true then (some 0) else (some (-1))) = some r := by rw [if_pos rfl] at H; exact H
    clear H
    have H := H1
    clear H1
    by_cases c6 : t170 = true
    · subst c6
      have H1 : (some 0) = some r := by rw [if_pos rfl] at H; exact H
      clear H
      have H := H1
      clear H1
      obtain rfl := Option.some.inj H
      go_enter Try.func28, Try.ntmps28
      go_wp2_with (first | ((with_reducible refine gate_callee (f := 52) rfl ?_); refine goesL_ (some 8) rfl rfl Try.func52 (by kernel_rfl) rfl #[.int .i64 a0] rfl (by (try simp only [List.map_toArray, List.map_cons, List.map_nil]); first | done | rfl | (simp only [List.length_drop, List.length_take]; rfl)) ?_; (with_reducible refine (cmp_isNaN_int.calls a0 true _ A3.out).mono ?_); rintro e w' ⟨rfl, ⟨nd, rfl⟩⟩; refine ⟨_, rfl, ?_⟩) | ((with_reducible refine gate_callee (f := 52) rfl ?_); refine goesL_ (some 10) rfl rfl Try.func52 (by kernel_rfl) rfl #[.int .i64 a1] rfl (by (try simp only [List.map_toArray, List.map_cons, List.map_nil]); first | done | rfl | (simp only [List.length_drop, List.length_take]; rfl)) ?_; (with_reducible refine (cmp_isNaN_int.calls a1 true _ A4.out).mono ?_); rintro e w' ⟨rfl, ⟨nd, rfl⟩⟩; refine ⟨_, rfl, ?_⟩))
      go_ret
      exact ⟨by first | rfl | (simp; done) | (simp [*]; done), by repeat (first | exact Drawn0.refl _ | apply Drawn0.step)⟩
    · replace c6 := Bool.eq_false_iff.mpr c6
      subst c6
      have H1 : (some (-1)) = some r := by rw [if_neg (show ¬ (false = true) by decide)] at H; exact H
      clear H
      have H := H1
      clear H1
      obtain rfl := Option.some.inj H
      go_enter Try.func28, Try.ntmps28
      go_wp2_with (first | ((with_reducible refine gate_callee (f := 52) rfl ?_); refine goesL_ (some 8) rfl rfl Try.func52 (by kernel_rfl) rfl #[.int .i64 a0] rfl (by (try simp only [List.map_toArray, List.map_cons, List.map_nil]); first | done | rfl | (simp only [List.length_drop, List.length_take]; rfl)) ?_; (with_reducible refine (cmp_isNaN_int.calls a0 true _ A3.out).mono ?_); rintro e w' ⟨rfl, ⟨nd, rfl⟩⟩; refine ⟨_, rfl, ?_⟩) | ((with_reducible refine gate_callee (f := 52) rfl ?_); refine goesL_ (some 10) rfl rfl Try.func52 (by kernel_rfl) rfl #[.int .i64 a1] rfl (by (try simp only [List.map_toArray, List.map_cons, List.map_nil]); first | done | rfl | (simp only [List.length_drop, List.length_take]; rfl)) ?_; (with_reducible refine (cmp_isNaN_int.calls a1 false _ A4.out).mono ?_); rintro e w' ⟨rfl, ⟨nd, rfl⟩⟩; refine ⟨_, rfl, ?_⟩))
      go_ret
      exact ⟨by first | rfl | (simp; done) | (simp [*]; done), by repeat (first | exact Drawn0.refl _ | apply Drawn0.step)⟩
  · replace c5 := Bool.eq_false_iff.mpr c5
    subst c5
    have H1 : (if t170 = true then (some 1) else (if a0 < a1 then (some (-1)) else (if a0 > a1 then (some 1) else (some 0)))) = some r := by rw [if_neg (show ¬ (false = true) by decide)] at H; exact H
    clear H
    have H := H1
    clear H1
    by_cases c7 : t170 = true
    · subst c7
      have H1 : (some 1) = some r := by rw [if_pos rfl] at H; exact H
      clear H
      have H := H1
      clear H1
      obtain rfl := Option.some.inj H
      go_enter Try.func28, Try.ntmps28
      go_wp2_with (first | ((with_reducible refine gate_callee (f := 52) rfl ?_); refine goesL_ (some 8) rfl rfl Try.func52 (by kernel_rfl) rfl #[.int .i64 a0] rfl (by (try simp only [List.map_toArray, List.map_cons, List.map_nil]); first | done | rfl | (simp only [List.length_drop, List.length_take]; rfl)) ?_; (with_reducible refine (cmp_isNaN_int.calls a0 false _ A3.out).mono ?_); rintro e w' ⟨rfl, ⟨nd, rfl⟩⟩; refine ⟨_, rfl, ?_⟩) | ((with_reducible refine gate_callee (f := 52) rfl ?_); refine goesL_ (some 10) rfl rfl Try.func52 (by kernel_rfl) rfl #[.int .i64 a1] rfl (by (try simp only [List.map_toArray, List.map_cons, List.map_nil]); first | done | rfl | (simp only [List.length_drop, List.length_take]; rfl)) ?_; (with_reducible refine (cmp_isNaN_int.calls a1 true _ A4.out).mono ?_); rintro e w' ⟨rfl, ⟨nd, rfl⟩⟩; refine ⟨_, rfl, ?_⟩))
      go_ret
      exact ⟨by first | rfl | (simp; done) | (simp [*]; done), by repeat (first | exact Drawn0.refl _ | apply Drawn0.step)⟩
    · replace c7 := Bool.eq_false_iff.mpr c7
      subst c7
      have H1 : (if a0 < a1 then (some (-1)) else (if a0 > a1 then (some 1) else (some 0))) = some r := by rw [if_neg (show ¬ (false = true) by decide)] at H; exact H
      clear H
      have H := H1
      clear H1
      by_cases c8 : a0 < a1
      · rw [if_pos c8] at H
        have c8b0 : decide (a0 < a1) = true := decide_eq_true c8
        clear c8
        obtain rfl := Option.some.inj H
        go_enter Try.func28, Try.ntmps28
        go_wp2_with (first | ((with_reducible refine gate_callee (f := 52) rfl ?_); refine goesL_ (some 8) rfl rfl Try.func52 (by kernel_rfl) rfl #[.int .i64 a0] rfl (by (try simp only [List.map_toArray, List.map_cons, List.map_nil]); first | done | rfl | (simp only [List.length_drop, List.length_take]; rfl)) ?_; (with_reducible refine (cmp_isNaN_int.calls a0 false _ A3.out).mono ?_); rintro e w' ⟨rfl, ⟨nd, rfl⟩⟩; refine ⟨_, rfl, ?_⟩) | ((with_reducible refine gate_callee (f := 52) rfl ?_); refine goesL_ (some 10) rfl rfl Try.func52 (by kernel_rfl) rfl #[.int .i64 a1] rfl (by (try simp only [List.map_toArray, List.map_cons, List.map_nil]); first | done | rfl | (simp only [List.length_drop, List.length_take]; rfl)) ?_; (with_reducible refine (cmp_isNaN_int.calls a1 false _ A4.out).mono ?_); rintro e w' ⟨rfl, ⟨nd, rfl⟩⟩; refine ⟨_, rfl, ?_⟩))
        go_ret
        exact ⟨by first | rfl | (simp; done) | (simp [*]; done), by repeat (first | exact Drawn0.refl _ | apply Drawn0.step)⟩
      · rw [if_neg c8] at H
        have c8b0 : decide (a0 < a1) = false := decide_eq_false c8
        clear c8
        by_cases c9 : a0 > a1
        · rw [if_pos c9] at H
          have c9b0 : decide (a1 < a0) = true := decide_eq_true c9
          clear c9
          obtain rfl := Option.some.inj H
          go_enter Try.func28, Try.ntmps28
          go_wp2_with (first | ((with_reducible refine gate_callee (f := 52) rfl ?_); refine goesL_ (some 8) rfl rfl Try.func52 (by kernel_rfl) rfl #[.int .i64 a0] rfl (by (try simp only [List.map_toArray, List.map_cons, List.map_nil]); first | done | rfl | (simp only [List.length_drop, List.length_take]; rfl)) ?_; (with_reducible refine (cmp_isNaN_int.calls a0 false _ A3.out).mono ?_); rintro e w' ⟨rfl, ⟨nd, rfl⟩⟩; refine ⟨_, rfl, ?_⟩) | ((with_reducible refine gate_callee (f := 52) rfl ?_); refine goesL_ (some 10) rfl rfl Try.func52 (by kernel_rfl) rfl #[.int .i64 a1] rfl (by (try simp only [List.map_toArray, List.map_cons, List.map_nil]); first | done | rfl | (simp only [List.length_drop, List.length_take]; rfl)) ?_; (with_reducible refine (cmp_isNaN_int.calls a1 false _ A4.out).mono ?_); rintro e w' ⟨rfl, ⟨nd, rfl⟩⟩; refine ⟨_, rfl, ?_⟩))
          go_ret
          exact ⟨by first | rfl | (simp; done) | (simp [*]; done), by repeat (first | exact Drawn0.refl _ | apply Drawn0.step)⟩
        · rw [if_neg c9] at H
          have c9b0 : decide (a1 < a0) = false := decide_eq_false c9
          clear c9
          obtain rfl := Option.some.inj H
          go_enter Try.func28, Try.ntmps28
          go_wp2_with (first | ((with_reducible refine gate_callee (f := 52) rfl ?_); refine goesL_ (some 8) rfl rfl Try.func52 (by kernel_rfl) rfl #[.int .i64 a0] rfl (by (try simp only [List.map_toArray, List.map_cons, List.map_nil]); first | done | rfl | (simp only [List.length_drop, List.length_take]; rfl)) ?_; (with_reducible refine (cmp_isNaN_int.calls a0 false _ A3.out).mono ?_); rintro e w' ⟨rfl, ⟨nd, rfl⟩⟩; refine ⟨_, rfl, ?_⟩) | ((with_reducible refine gate_callee (f := 52) rfl ?_); refine goesL_ (some 10) rfl rfl Try.func52 (by kernel_rfl) rfl #[.int .i64 a1] rfl (by (try simp only [List.map_toArray, List.map_cons, List.map_nil]); first | done | rfl | (simp only [List.length_drop, List.length_take]; rfl)) ?_; (with_reducible refine (cmp_isNaN_int.calls a1 false _ A4.out).mono ?_); rintro e w' ⟨rfl, ⟨nd, rfl⟩⟩; refine ⟨_, rfl, ?_⟩))
          go_ret
          exact ⟨by first | rfl | (simp; done) | (simp [*]; done), by repeat (first | exact Drawn0.refl _ | apply Drawn0.step)⟩
end Go.Proofs.Ytiihjijmmephlaa.GHist
namespace Go.Proofs.Ytiihjijmmephlaa.GHist
open Go.RowKit Go.Proofs.YtiihjijmmephlaaW.PrintWords Go.Proofs.YtiihjijmmephlaaW.PrintLast Go.Proofs.YtiihjijmmephlaaW.PrintMore
attribute [local go_sem] max2_int min2_int max_two min_two max_three min_three max_four min_four   -- for this text's walks alone
set_option linter.unusedVariables false
set_option linter.unusedSimpArgs false
def stepstoneref08_in.l0 : Nat → List Int → Int → Int → Option (Bool)
  | 0, _, _, _ => none
  | k + 1, x0, x1, x5 => if x5 < (x0.length : Int) then (if 0 ≤ x5 then (if (rd x0 x5) = x1 then (some true) else (stepstoneref08_in.l0 k x0 x1 (wrap64 (x5 + 1)))) else (none)) else (some false)
def stepstoneref08_in.f (k : Nat) (l0 : List Int) (a1 : Int) : Option (Bool) := stepstoneref08_in.l0 k l0 a1 0
set_option maxHeartbeats 8000000 in
set_option maxRecDepth 100000 in
theorem stepstoneref08_in.calls (k : Nat) (A0 : Option Addr) (c0 : Nat) (l0 : List Int) (a1 : Int) (r : Bool) (w : World) (hr0 : Kd.C (Kd.int .u64) w A0 l0.length l0) (hc0 : l0.length ≤ c0) (h : stepstoneref08_in.f k l0 a1 = some r) :
    Calls Try.prog 62 #[.slice A0 l0.length c0, .int .u64 a1] w fun e w' => e = .returned (.bool r) ∧ Drawn0 w w' := by
  have HR0 := Aside0.mk hr0
  have HC0 := Aside0.mk hc0
  clear hr0 hc0
  have H : (stepstoneref08_in.l0 k l0 a1 0) = some r := h
  clear h
  have H' := Aside0.mk H
  clear H
  go_enter Try.func62, Try.ntmps62
  go_wp2
  go_loopg [5] k (fun kq v5 w' => ∃ (x5_1 : Int), v5 = .int .i64 x5_1 ∧ Aside0 (stepstoneref08_in.l0 kq l0 a1 x5_1 = some r) ∧ Aside0 (kq ≤ k) ∧ Drawn0 w w')
  case atStart => exact ⟨(0), (by first | rfl | (simp; done) | (simp [*]; done)), H', ⟨Nat.le_refl _⟩, by repeat (first | exact Drawn0.refl _ | apply Drawn0.step)⟩
  case round =>
    clear H'
    try clear p2
    obtain ⟨x5_1, rfl, HA, HK1, ⟨m1, rfl⟩⟩ := hrel
    cases gk with
    | zero => exact absurd HA.out (by simp [stepstoneref08_in.l0])
    | succ k1 =>
      have H := HA.out
      clear HA
      simp only [stepstoneref08_in.l0] at H
      by_cases c3 : x5_1 < (l0.length : Int)
      · rw [if_pos c3] at H
        have c3b0 : decide (x5_1 < (l0.length : Int)) = true := decide_eq_true c3
        clear c3
        by_cases c4 : 0 ≤ x5_1
        · rw [if_pos c4] at H
          have c4b0 : decide (0 ≤ x5_1) = true := decide_eq_true c4
          clear c4
          by_cases c5 : (rd l0 x5_1) = a1
          · rw [if_pos c5] at H
            have c5b0 : ((rd l0 x5_1) == a1) = true := beq_iff_eq.mpr c5
            have c5b1 : ((rd l0 x5_1) != a1) = false := bne_eq_false_iff_eq.mpr c5
            clear c5
            obtain rfl := Option.some.inj H
            have p181 : 0 ≤ (x5_1 : Int) := of_decide_eq_true (by first | (with_reducible assumption) | assumption)
            have q181 : x5_1 < (l0.length : Int) := of_decide_eq_true (by first | (with_reducible assumption) | assumption)
            obtain ⟨ad181, e181, hx181_0⟩ := Kd.at_int HR0.out x5_1 p181 q181
            cases e181
            replace p181 := eq_true p181
            replace q181 := eq_true q181
            go_wp2
            go_ret
            exact ⟨by first | rfl | (simp; done) | (simp [*]; done), by repeat (first | exact Drawn0.refl _ | apply Drawn0.step)⟩
          · rw [if_neg c5] at H
            have c5b0 : ((rd l0 x5_1) == a1) = false := beq_eq_false_iff_ne.mpr c5
            have c5b1 : ((rd l0 x5_1) != a1) = true := bne_iff_ne.mpr c5
            have H' := Aside0.mk H
            clear H
            have p181 : 0 ≤ (x5_1 : Int) := of_decide_eq_true (by first | (with_reducible assumption) | assumption)
            have q181 : x5_1 < (l0.length : Int) := of_decide_eq_true (by first | (with_reducible assumption) | assumption)
            obtain ⟨ad181, e181, hx181_0⟩ := Kd.at_int HR0.out x5_1 p181 q181
            cases e181
            replace p181 := eq_true p181
            replace q181 := eq_true q181
            go_wp2
            go_roundg k1
            case measure => have := HK1.out; omega
            case rel => exact ⟨(wrap64 (x5_1 + 1)), (by first | rfl | (simp; done) | (simp [*]; done)), H', ⟨by have := HK1.out; omega⟩, by repeat (first | exact Drawn0.refl _ | apply Drawn0.step)⟩
        · rw [if_neg c4] at H
          exact absurd H (by simp)
      · rw [if_neg c3] at H
        have c3b0 : decide (x5_1 < (l0.length : Int)) = false := decide_eq_false c3
        clear c3
        obtain rfl := Option.some.inj H
        go_wp2
        go_ret
        exact ⟨by first | rfl | (simp; done) | (simp [*]; done), by repeat (first | exact Drawn0.refl _ | apply Drawn0.step)⟩
def stepstoneref08_has.l0 : Nat → List (S61) → Int → Int → Option (Bool)
  | 0, _, _, _ => none
  | k + 1, x0, x1, x5 => if x5 < (x0.length : Int) then (if 0 ≤ x5 then (if ((rd_T61 x0 x5).f0) = x1 then (some true) else (stepstoneref08_has.l0 k x0 x1 (wrap64 (x5 + 1)))) else (none)) else (some false)
def stepstoneref08_has.f (k : Nat) (l0 : List (S61)) (a1 : Int) : Option (Bool) := stepstoneref08_has.l0 k l0 a1 0
set_option maxHeartbeats 8000000 in
set_option maxRecDepth 100000 in
theorem stepstoneref08_has.calls (k : Nat) (A0 : Option Addr) (c0 : Nat) (l0 : List (S61)) (a1 : Int) (r : Bool) (w : World) (hr0 : Kd.C k61 w A0 l0.length l0) (hc0 : l0.length ≤ c0) (h : stepstoneref08_has.f k l0 a1 = some r) :
    Calls Try.prog 61 #[.slice A0 l0.length c0, .int .u64 a1] w fun e w' => e = .returned (.bool r) ∧ Drawn0 w w' := by
  have HR0 := Aside0.mk hr0
  have HC0 := Aside0.mk hc0
  clear hr0 hc0
  have H : (stepstoneref08_has.l0 k l0 a1 0) = some r := h
  clear h
  have H' := Aside0.mk H
  clear H
  go_enter Try.func61, Try.ntmps61
  go_wp2
  go_loopg [5] k (fun kq v5 w' => ∃ (x5_1 : Int), v5 = .int .i64 x5_1 ∧ Aside0 (stepstoneref08_has.l0 kq l0 a1 x5_1 = some r) ∧ Aside0 (kq ≤ k) ∧ Drawn0 w w')
  case atStart => exact ⟨(0), (by first | rfl | (simp; done) | (simp [*]; done)), H', ⟨Nat.le_refl _⟩, by repeat (first | exact Drawn0.refl _ | apply Drawn0.step)⟩
  case round =>
    clear H'
    try clear p2
    obtain ⟨x5_1, rfl, HA, HK1, ⟨m1, rfl⟩⟩ := hrel
    cases gk with
    | zero => exact absurd HA.out (by simp [stepstoneref08_has.l0])
    | succ k1 =>
      have H := HA.out
      clear HA
      simp only [stepstoneref08_has.l0] at H
      by_cases c3 : x5_1 < (l0.length : Int)
      · rw [if_pos c3] at H
        have c3b0 : decide (x5_1 < (l0.length : Int)) = true := decide_eq_true c3
        clear c3
        by_cases c4 : 0 ≤ x5_1
        · rw [if_pos c4] at H
          have c4b0 : decide (0 ≤ x5_1) = true := decide_eq_true c4
          clear c4
          by_cases c5 : ((rd_T61 l0 x5_1).f0) = a1
          · rw [if_pos c5] at H
            have c5b0 : (((rd_T61 l0 x5_1).f0) == a1) = true := beq_iff_eq.mpr c5
            have c5b1 : (((rd_T61 l0 x5_1).f0) != a1) = false := bne_eq_false_iff_eq.mpr c5
            clear c5
            obtain rfl := Option.some.inj H
            have p182 : 0 ≤ (x5_1 : Int) := of_decide_eq_true (by first | (with_reducible assumption) | assumption)
            have q182 : x5_1 < (l0.length : Int) := of_decide_eq_true (by first | (with_reducible assumption) | assumption)
            obtain ⟨ad182, e182, hx182_0, hx182_1⟩ := at_T61 HR0.out x5_1 p182 q182
            cases e182
            replace p182 := eq_true p182
            replace q182 := eq_true q182
            go_wp2
            go_ret
            exact ⟨by first | rfl | (simp; done) | (simp [*]; done), by repeat (first | exact Drawn0.refl _ | apply Drawn0.step)⟩
          · rw [if_neg c5] at H
            have c5b0 : (((rd_T61 l0 x5_1).f0) == a1) = false := beq_eq_false_iff_ne.mpr c5
            have c5b1 : (((rd_T61 l0 x5_1).f0) != a1) = true := bne_iff_ne.mpr c5
            have H' := Aside0.mk H
            clear H
            have p182 : 0 ≤ (x5_1 : Int) := of_decide_eq_true (by first | (with_reducible assumption) | assumption)
            have q182 : x5_1 < (l0.length : Int) := of_decide_eq_true (by first | (with_reducible assumption) | assumption)
            obtain ⟨ad182, e182, hx182_0, hx182_1⟩ := at_T61 HR0.out x5_1 p182 q182
            cases e182
            replace p182 := eq_true p182
            replace q182 := eq_true q182
            go_wp2
            go_roundg k1
            case measure => have := HK1.out; omega
            case rel => exact ⟨(wrap64 (x5_1 + 1)), (by first | rfl | (simp; done) | (simp [*]; done)), H', ⟨by have := HK1.out; omega⟩, by repeat (first | exact Drawn0.refl _ | apply Drawn0.step)⟩
        · rw [if_neg c4] at H
          exact absurd H (by simp)
      · rw [if_neg c3] at H
        have c3b0 : decide (x5_1 < (l0.length : Int)) = false := decide_eq_false c3
        clear c3
        obtain rfl := Option.some.inj H
        go_wp2
        go_ret
        exact ⟨by first | rfl | (simp; done) | (simp [*]; done), by repeat (first | exact Drawn0.refl _ | apply Drawn0.step)⟩
def stepstonelaw08_few.l0 : Nat → List (S48) → List (S48) → Int → Int → Option (Bool)
  | 0, _, _, _, _ => none
  | k + 1, x0, x5, x6, x7 => if x7 < x6 then (if 0 ≤ x7 then (if x7 < (x5.length : Int) then (if (x0.length : Int) > 40 then (some false) else (if (((rd_T48 x5 x7).f6.f3).length : Int) > 40 then (some false) else (stepstonelaw08_few.l0 k x0 x5 x6 (wrap64 (x7 + 1))))) else (none)) else (none)) else (some true)
def stepstonelaw08_few.f (k : Nat) (l0 : List (S48)) : Option (Bool) := stepstonelaw08_few.l0 k l0 l0 (l0.length : Int) 0
set_option maxHeartbeats 8000000 in
set_option maxRecDepth 100000 in
theorem stepstonelaw08_few.calls (k : Nat) (A0 : Option Addr) (c0 : Nat) (l0 : List (S48)) (r : Bool) (w : World) (hr0 : Kd.C k48 w A0 l0.length l0) (hc0 : l0.length ≤ c0) (h : stepstonelaw08_few.f k l0 = some r) :
    Calls Try.prog 9 #[.slice A0 l0.length c0] w fun e w' => e = .returned (.bool r) ∧ Below w.heap.size w w' := by
  have hu48 := Try.underlying48
  have HR0 := Aside0.mk hr0
  have HC0 := Aside0.mk hc0
  clear hr0 hc0
  have HB := Aside0.mk (Below.refl w.heap.size w)
  have H : (stepstonelaw08_few.l0 k l0 l0 (l0.length : Int) 0) = some r := h
  clear h
  have H' := Aside0.mk H
  clear H
  go_enter Try.func9, Try.ntmps9
  go_wp2
  go_loopg [7] k (fun kq v7 w' => ∃ (x7_1 : Int), v7 = .int .i64 x7_1 ∧ Aside0 (stepstonelaw08_few.l0 kq l0 l0 (l0.length : Int) x7_1 = some r) ∧ Aside0 (kq ≤ k) ∧ Aside0 (Below w.heap.size w w'))
  case atStart => exact ⟨(0), (by first | rfl | (simp; done) | (simp [*]; done)), H', ⟨Nat.le_refl _⟩, ⟨by repeat (first | (with_reducible first | exact HB.out | apply below_alloc | apply pw_below_drewN | apply below_drew1) | exact HB.out)⟩⟩
  case round =>
    clear H'
    obtain ⟨x7_1, rfl, HA, HK1, HB⟩ := hrel
    cases gk with
    | zero => exact absurd HA.out (by simp [stepstonelaw08_few.l0])
    | succ k1 =>
      have H := HA.out
      clear HA
      simp only [stepstonelaw08_few.l0] at H
      by_cases c2 : x7_1 < (l0.length : Int)
      · rw [if_pos c2] at H
        have c2b0 : decide (x7_1 < (l0.length : Int)) = true := decide_eq_true c2
        clear c2
        by_cases c3 : 0 ≤ x7_1
        · rw [if_pos c3] at H
          have c3b0 : decide (0 ≤ x7_1) = true := decide_eq_true c3
          clear c3
          by_cases c4 : x7_1 < (l0.length : Int)
          · rw [if_pos c4] at H
            have c4b0 : decide (x7_1 < (l0.length : Int)) = true := decide_eq_true c4
            clear c4
            by_cases c5 : (l0.length : Int) > 40
            · rw [if_pos c5] at H
              have c5b0 : decide (40 < (l0.length : Int)) = true := decide_eq_true c5
              have c5b1 : decide (40 < l0.length) = true := decide_eq_true (by omega)
              clear c5
              obtain rfl := Option.some.inj H
              have p183 : 0 ≤ (x7_1 : Int) := of_decide_eq_true (by first | (with_reducible assumption) | assumption)
              have q183 : x7_1 < (l0.length : Int) := of_decide_eq_true (by first | (with_reducible assumption) | assumption)
              obtain ⟨ad183, A183_13, c183_13, e183, hx183_0, hx183_1, hx183_2, hx183_3, hx183_4, hx183_5, hx183_6, hx183_7, hx183_8, hx183_9, hx183_10, hx183_11, hx183_12, hx183_13, hl183_13, hi183_13⟩ := at_T48 HR0.out x7_1 p183 q183
              cases e183
              replace hx183_0 := (HB.out.cell (World.block_lt_of_cell? w _ hx183_0)).trans hx183_0
              replace hx183_1 := (HB.out.cell (World.block_lt_of_cell? w _ hx183_1)).trans hx183_1
              replace hx183_2 := (HB.out.cell (World.block_lt_of_cell? w _ hx183_2)).trans hx183_2
              replace hx183_3 := (HB.out.cell (World.block_lt_of_cell? w _ hx183_3)).trans hx183_3
              replace hx183_4 := (HB.out.cell (World.block_lt_of_cell? w _ hx183_4)).trans hx183_4
              replace hx183_5 := (HB.out.cell (World.block_lt_of_cell? w _ hx183_5)).trans hx183_5
              replace hx183_6 := (HB.out.cell (World.block_lt_of_cell? w _ hx183_6)).trans hx183_6
              replace hx183_7 := (HB.out.cell (World.block_lt_of_cell? w _ hx183_7)).trans hx183_7
              replace hx183_8 := (HB.out.cell (World.block_lt_of_cell? w _ hx183_8)).trans hx183_8
              replace hx183_9 := (HB.out.cell (World.block_lt_of_cell? w _ hx183_9)).trans hx183_9
              replace hx183_10 := (HB.out.cell (World.block_lt_of_cell? w _ hx183_10)).trans hx183_10
              replace hx183_11 := (HB.out.cell (World.block_lt_of_cell? w _ hx183_11)).trans hx183_11
              replace hx183_12 := (HB.out.cell (World.block_lt_of_cell? w _ hx183_12)).trans hx183_12
              replace hx183_13 := (HB.out.cell (World.block_lt_of_cell? w _ hx183_13)).trans hx183_13
              have HR183_13 := Aside0.mk hi183_13
              have HC183_13 := Aside0.mk hl183_13
              clear hi183_13 hl183_13
              replace p183 := eq_true p183
              replace q183 := eq_true q183
              go_wp2_with (first | ((with_reducible refine gate_dst (N := 4) rfl ?_); (try (refine gate_guard (by rfl) ?_; dsimp only)); refine box_event ?hg (N := 4) ?hd (cs := #[.int .i64 0, .int .i64 0, .int .u64 0, .int .u64 0, .int .i64 0, .int .i64 0, .int .i64 0, .int .i64 0, .int .i64 0, .bool false, .bool false, .bool false, .int .u64 0, .slice none 0 0]) (t := 48) ?hr ?_; (case hd => rfl); (case hg => rfl); (case hr => first | (go_simp; done) | (go_simp; rfl)); intro gb184 hg w6 hbox hb; have n0_ := Aside0.mk (below_step (by repeat (first | (with_reducible first | exact HB.out | apply below_alloc | apply pw_below_drewN | apply below_drew1) | exact HB.out)) hb); have n1_ := Aside0.mk (hbox); have n2_ := Aside0.mk ((by rw [hg]; exact (below_size (by repeat (first | (with_reducible first | exact HB.out | apply below_alloc | apply pw_below_drewN | apply below_drew1) | exact HB.out))) : w.heap.size ≤ gb184)); have n3_ := Aside0.mk ((by rw [hg]; exact (below_size (by repeat (first | (with_reducible first | exact HB.out | apply below_alloc | apply pw_below_drewN | apply below_drew1) | exact HB.out))) : w.heap.size ≤ gb184)); clear HB; have HB := n0_; have BK184 := n1_; have GW184 := n2_; have GE184 := n3_; clear n0_ n1_ n2_ n3_; clear hb hbox hg; have hcz7_0 : w6.cell? ⟨gb184, 0, none⟩ = some (.int .i64 0) := (blk_cell BK184.out 0).trans rfl; have hcz7_1 : w6.cell? ⟨gb184, 1, none⟩ = some (.int .i64 0) := (blk_cell BK184.out 1).trans rfl; have hcz7_2 : w6.cell? ⟨gb184, 2, none⟩ = some (.int .u64 0) := (blk_cell BK184.out 2).trans rfl; have hcz7_3 : w6.cell? ⟨gb184, 3, none⟩ = some (.int .u64 0) := (blk_cell BK184.out 3).trans rfl; have hcz7_4 : w6.cell? ⟨gb184, 4, none⟩ = some (.int .i64 0) := (blk_cell BK184.out 4).trans rfl; have hcz7_5 : w6.cell? ⟨gb184, 5, none⟩ = some (.int .i64 0) := (blk_cell BK184.out 5).trans rfl; have hcz7_6 : w6.cell? ⟨gb184, 6, none⟩ = some (.int .i64 0) := (blk_cell BK184.out 6).trans rfl; have hcz7_7 : w6.cell? ⟨gb184, 7, none⟩ = some (.int .i64 0) := (blk_cell BK184.out 7).trans rfl; have hcz7_8 : w6.cell? ⟨gb184, 8, none⟩ = some (.int .i64 0) := (blk_cell BK184.out 8).trans rfl; have hcz7_9 : w6.cell? ⟨gb184, 9, none⟩ = some (.bool false) := (blk_cell BK184.out 9).trans rfl; have hcz7_10 : w6.cell? ⟨gb184, 10, none⟩ = some (.bool false) := (blk_cell BK184.out 10).trans rfl; have hcz7_11 : w6.cell? ⟨gb184, 11, none⟩ = some (.bool false) := (blk_cell BK184.out 11).trans rfl; have hcz7_12 : w6.cell? ⟨gb184, 12, none⟩ = some (.int .u64 0) := (blk_cell BK184.out 12).trans rfl; have hcz7_13 : w6.cell? ⟨gb184, 13, none⟩ = some (.slice none 0 0) := (blk_cell BK184.out 13).trans rfl; have hfz7_0 := blk_frozen BK184.out 0; have hfz7_1 := blk_frozen BK184.out 1; have hfz7_2 := blk_frozen BK184.out 2; have hfz7_3 := blk_frozen BK184.out 3; have hfz7_4 := blk_frozen BK184.out 4; have hfz7_5 := blk_frozen BK184.out 5; have hfz7_6 := blk_frozen BK184.out 6; have hfz7_7 := blk_frozen BK184.out 7; have hfz7_8 := blk_frozen BK184.out 8; have hfz7_9 := blk_frozen BK184.out 9; have hfz7_10 := blk_frozen BK184.out 10; have hfz7_11 := blk_frozen BK184.out 11; have hfz7_12 := blk_frozen BK184.out 12; have hfz7_13 := blk_frozen BK184.out 13))
              go_ret
              exact ⟨by first | rfl | (simp [errW_none, errW_some] <;> rfl) | (simp [*, errW_none, errW_some] <;> rfl), by repeat (first | (with_reducible first | exact HB.out | apply below_alloc | apply pw_below_drewN | apply below_drew1 | refine below_set ?_ GE184.out) | exact HB.out)⟩
            · rw [if_neg c5] at H
              have c5b0 : decide (40 < (l0.length : Int)) = false := decide_eq_false c5
              have c5b1 : decide (40 < l0.length) = false := decide_eq_false (by omega)
              clear c5
              by_cases c8 : (((rd_T48 l0 x7_1).f6.f3).length : Int) > 40
              · rw [if_pos c8] at H
                have c8b0 : decide (40 < (((rd_T48 l0 x7_1).f6.f3).length : Int)) = true := decide_eq_true c8
                have c8b1 : decide (40 < ((rd_T48 l0 x7_1).f6.f3).length) = true := decide_eq_true (by omega)
                clear c8
                obtain rfl := Option.some.inj H
                have p183 : 0 ≤ (x7_1 : Int) := of_decide_eq_true (by first | (with_reducible assumption) | assumption)
                have q183 : x7_1 < (l0.length : Int) := of_decide_eq_true (by first | (with_reducible assumption) | assumption)
                obtain ⟨ad183, A183_13, c183_13, e183, hx183_0, hx183_1, hx183_2, hx183_3, hx183_4, hx183_5, hx183_6, hx183_7, hx183_8, hx183_9, hx183_10, hx183_11, hx183_12, hx183_13, hl183_13, hi183_13⟩ := at_T48 HR0.out x7_1 p183 q183
                cases e183
                replace hx183_0 := (HB.out.cell (World.block_lt_of_cell? w _ hx183_0)).trans hx183_0
                replace hx183_1 := (HB.out.cell (World.block_lt_of_cell? w _ hx183_1)).trans hx183_1
                replace hx183_2 := (HB.out.cell (World.block_lt_of_cell? w _ hx183_2)).trans hx183_2
                replace hx183_3 := (HB.out.cell (World.block_lt_of_cell? w _ hx183_3)).trans hx183_3
                replace hx183_4 := (HB.out.cell (World.block_lt_of_cell? w _ hx183_4)).trans hx183_4
                replace hx183_5 := (HB.out.cell (World.block_lt_of_cell? w _ hx183_5)).trans hx183_5
                replace hx183_6 := (HB.out.cell (World.block_lt_of_cell? w _ hx183_6)).trans hx183_6
                replace hx183_7 := (HB.out.cell (World.block_lt_of_cell? w _ hx183_7)).trans hx183_7
                replace hx183_8 := (HB.out.cell (World.block_lt_of_cell? w _ hx183_8)).trans hx183_8
                replace hx183_9 := (HB.out.cell (World.block_lt_of_cell? w _ hx183_9)).trans hx183_9
                replace hx183_10 := (HB.out.cell (World.block_lt_of_cell? w _ hx183_10)).trans hx183_10
                replace hx183_11 := (HB.out.cell (World.block_lt_of_cell? w _ hx183_11)).trans hx183_11
                replace hx183_12 := (HB.out.cell (World.block_lt_of_cell? w _ hx183_12)).trans hx183_12
                replace hx183_13 := (HB.out.cell (World.block_lt_of_cell? w _ hx183_13)).trans hx183_13
                have HR183_13 := Aside0.mk hi183_13
                have HC183_13 := Aside0.mk hl183_13
                clear hi183_13 hl183_13
                replace p183 := eq_true p183
                replace q183 := eq_true q183
                go_wp2_with (first | ((with_reducible refine gate_dst (N := 4) rfl ?_); (try (refine gate_guard (by rfl) ?_; dsimp only)); refine box_event ?hg (N := 4) ?hd (cs := #[.int .i64 0, .int .i64 0, .int .u64 0, .int .u64 0, .int .i64 0, .int .i64 0, .int .i64 0, .int .i64 0, .int .i64 0, .bool false, .bool false, .bool false, .int .u64 0, .slice none 0 0]) (t := 48) ?hr ?_; (case hd => rfl); (case hg => rfl); (case hr => first | (go_simp; done) | (go_simp; rfl)); intro gb184 hg w9 hbox hb; have n0_ := Aside0.mk (below_step (by repeat (first | (with_reducible first | exact HB.out | apply below_alloc | apply pw_below_drewN | apply below_drew1) | exact HB.out)) hb); have n1_ := Aside0.mk (hbox); have n2_ := Aside0.mk ((by rw [hg]; exact (below_size (by repeat (first | (with_reducible first | exact HB.out | apply below_alloc | apply pw_below_drewN | apply below_drew1) | exact HB.out))) : w.heap.size ≤ gb184)); have n3_ := Aside0.mk ((by rw [hg]; exact (below_size (by repeat (first | (with_reducible first | exact HB.out | apply below_alloc | apply pw_below_drewN | apply below_drew1) | exact HB.out))) : w.heap.size ≤ gb184)); clear HB; have HB := n0_; have BK184 := n1_; have GW184 := n2_; have GE184 := n3_; clear n0_ n1_ n2_ n3_; clear hb hbox hg; have hcz10_0 : w9.cell? ⟨gb184, 0, none⟩ = some (.int .i64 0) := (blk_cell BK184.out 0).trans rfl; have hcz10_1 : w9.cell? ⟨gb184, 1, none⟩ = some (.int .i64 0) := (blk_cell BK184.out 1).trans rfl; have hcz10_2 : w9.cell? ⟨gb184, 2, none⟩ = some (.int .u64 0) := (blk_cell BK184.out 2).trans rfl; have hcz10_3 : w9.cell? ⟨gb184, 3, none⟩ = some (.int .u64 0) := (blk_cell BK184.out 3).trans rfl; have hcz10_4 : w9.cell? ⟨gb184, 4, none⟩ = some (.int .i64 0) := (blk_cell BK184.out 4).trans rfl; have hcz10_5 : w9.cell? ⟨gb184, 5, none⟩ = some (.int .i64 0) := (blk_cell BK184.out 5).trans rfl; have hcz10_6 : w9.cell? ⟨gb184, 6, none⟩ = some (.int .i64 0) := (blk_cell BK184.out 6).trans rfl; have hcz10_7 : w9.cell? ⟨gb184, 7, none⟩ = some (.int .i64 0) := (blk_cell BK184.out 7).trans rfl; have hcz10_8 : w9.cell? ⟨gb184, 8, none⟩ = some (.int .i64 0) := (blk_cell BK184.out 8).trans rfl; have hcz10_9 : w9.cell? ⟨gb184, 9, none⟩ = some (.bool false) := (blk_cell BK184.out 9).trans rfl; have hcz10_10 : w9.cell? ⟨gb184, 10, none⟩ = some (.bool false) := (blk_cell BK184.out 10).trans rfl; have hcz10_11 : w9.cell? ⟨gb184, 11, none⟩ = some (.bool false) := (blk_cell BK184.out 11).trans rfl; have hcz10_12 : w9.cell? ⟨gb184, 12, none⟩ = some (.int .u64 0) := (blk_cell BK184.out 12).trans rfl; have hcz10_13 : w9.cell? ⟨gb184, 13, none⟩ = some (.slice none 0 0) := (blk_cell BK184.out 13).trans rfl; have hfz10_0 := blk_frozen BK184.out 0; have hfz10_1 := blk_frozen BK184.out 1; have hfz10_2 := blk_frozen BK184.out 2; have hfz10_3 := blk_frozen BK184.out 3; have hfz10_4 := blk_frozen BK184.out 4; have hfz10_5 := blk_frozen BK184.out 5; have hfz10_6 := blk_frozen BK184.out 6; have hfz10_7 := blk_frozen BK184.out 7; have hfz10_8 := blk_frozen BK184.out 8; have hfz10_9 := blk_frozen BK184.out 9; have hfz10_10 := blk_frozen BK184.out 10; have hfz10_11 := blk_frozen BK184.out 11; have hfz10_12 := blk_frozen BK184.out 12; have hfz10_13 := blk_frozen BK184.out 13))
                go_ret
                exact ⟨by first | rfl | (simp [errW_none, errW_some] <;> rfl) | (simp [*, errW_none, errW_some] <;> rfl), by repeat (first | (with_reducible first | exact HB.out | apply below_alloc | apply pw_below_drewN | apply below_drew1 | refine below_set ?_ GE184.out) | exact HB.out)⟩
              · rw [if_neg c8] at H
                have c8b0 : decide (40 < (((rd_T48 l0 x7_1).f6.f3).length : Int)) = false := decide_eq_false c8
                have c8b1 : decide (40 < ((rd_T48 l0 x7_1).f6.f3).length) = false := decide_eq_false (by omega)
                clear c8
                have H' := Aside0.mk H
                clear H
                have p183 : 0 ≤ (x7_1 : Int) := of_decide_eq_true (by first | (with_reducible assumption) | assumption)
                have q183 : x7_1 < (l0.length : Int) := of_decide_eq_true (by first | (with_reducible assumption) | assumption)
                obtain ⟨ad183, A183_13, c183_13, e183, hx183_0, hx183_1, hx183_2, hx183_3, hx183_4, hx183_5, hx183_6, hx183_7, hx183_8, hx183_9, hx183_10, hx183_11, hx183_12, hx183_13, hl183_13, hi183_13⟩ := at_T48 HR0.out x7_1 p183 q183
                cases e183
                replace hx183_0 := (HB.out.cell (World.block_lt_of_cell? w _ hx183_0)).trans hx183_0
                replace hx183_1 := (HB.out.cell (World.block_lt_of_cell? w _ hx183_1)).trans hx183_1
                replace hx183_2 := (HB.out.cell (World.block_lt_of_cell? w _ hx183_2)).trans hx183_2
                replace hx183_3 := (HB.out.cell (World.block_lt_of_cell? w _ hx183_3)).trans hx183_3
                replace hx183_4 := (HB.out.cell (World.block_lt_of_cell? w _ hx183_4)).trans hx183_4
                replace hx183_5 := (HB.out.cell (World.block_lt_of_cell? w _ hx183_5)).trans hx183_5
                replace hx183_6 := (HB.out.cell (World.block_lt_of_cell? w _ hx183_6)).trans hx183_6
                replace hx183_7 := (HB.out.cell (World.block_lt_of_cell? w _ hx183_7)).trans hx183_7
                replace hx183_8 := (HB.out.cell (World.block_lt_of_cell? w _ hx183_8)).trans hx183_8
                replace hx183_9 := (HB.out.cell (World.block_lt_of_cell? w _ hx183_9)).trans hx183_9
                replace hx183_10 := (HB.out.cell (World.block_lt_of_cell? w _ hx183_10)).trans hx183_10
                replace hx183_11 := (HB.out.cell (World.block_lt_of_cell? w _ hx183_11)).trans hx183_11
                replace hx183_12 := (HB.out.cell (World.block_lt_of_cell? w _ hx183_12)).trans hx183_12
                replace hx183_13 := (HB.out.cell (World.block_lt_of_cell? w _ hx183_13)).trans hx183_13
                have HR183_13 := Aside0.mk hi183_13
                have HC183_13 := Aside0.mk hl183_13
                clear hi183_13 hl183_13
                replace p183 := eq_true p183
                replace q183 := eq_true q183
                go_wp2_with (first | ((with_reducible refine gate_dst (N := 4) rfl ?_); (try (refine gate_guard (by rfl) ?_; dsimp only)); refine box_event ?hg (N := 4) ?hd (cs := #[.int .i64 0, .int .i64 0, .int .u64 0, .int .u64 0, .int .i64 0, .int .i64 0, .int .i64 0, .int .i64 0, .int .i64 0, .bool false, .bool false, .bool false, .int .u64 0, .slice none 0 0]) (t := 48) ?hr ?_; (case hd => rfl); (case hg => rfl); (case hr => first | (go_simp; done) | (go_simp; rfl)); intro gb184 hg w11 hbox hb; have n0_ := Aside0.mk (below_step (by repeat (first | (with_reducible first | exact HB.out | apply below_alloc | apply pw_below_drewN | apply below_drew1) | exact HB.out)) hb); have n1_ := Aside0.mk (hbox); have n2_ := Aside0.mk ((by rw [hg]; exact (below_size (by repeat (first | (with_reducible first | exact HB.out | apply below_alloc | apply pw_below_drewN | apply below_drew1) | exact HB.out))) : w.heap.size ≤ gb184)); have n3_ := Aside0.mk ((by rw [hg]; exact (below_size (by repeat (first | (with_reducible first | exact HB.out | apply below_alloc | apply pw_below_drewN | apply below_drew1) | exact HB.out))) : w.heap.size ≤ gb184)); clear HB; have HB := n0_; have BK184 := n1_; have GW184 := n2_; have GE184 := n3_; clear n0_ n1_ n2_ n3_; clear hb hbox hg; have hcz12_0 : w11.cell? ⟨gb184, 0, none⟩ = some (.int .i64 0) := (blk_cell BK184.out 0).trans rfl; have hcz12_1 : w11.cell? ⟨gb184, 1, none⟩ = some (.int .i64 0) := (blk_cell BK184.out 1).trans rfl; have hcz12_2 : w11.cell? ⟨gb184, 2, none⟩ = some (.int .u64 0) := (blk_cell BK184.out 2).trans rfl; have hcz12_3 : w11.cell? ⟨gb184, 3, none⟩ = some (.int .u64 0) := (blk_cell BK184.out 3).trans rfl; have hcz12_4 : w11.cell? ⟨gb184, 4, none⟩ = some (.int .i64 0) := (blk_cell BK184.out 4).trans rfl; have hcz12_5 : w11.cell? ⟨gb184, 5, none⟩ = some (.int .i64 0) := (blk_cell BK184.out 5).trans rfl; have hcz12_6 : w11.cell? ⟨gb184, 6, none⟩ = some (.int .i64 0) := (blk_cell BK184.out 6).trans rfl; have hcz12_7 : w11.cell? ⟨gb184, 7, none⟩ = some (.int .i64 0) := (blk_cell BK184.out 7).trans rfl; have hcz12_8 : w11.cell? ⟨gb184, 8, none⟩ = some (.int .i64 0) := (blk_cell BK184.out 8).trans rfl; have hcz12_9 : w11.cell? ⟨gb184, 9, none⟩ = some (.bool false) := (blk_cell BK184.out 9).trans rfl; have hcz12_10 : w11.cell? ⟨gb184, 10, none⟩ = some (.bool false) := (blk_cell BK184.out 10).trans rfl; have hcz12_11 : w11.cell? ⟨gb184, 11, none⟩ = some (.bool false) := (blk_cell BK184.out 11).trans rfl; have hcz12_12 : w11.cell? ⟨gb184, 12, none⟩ = some (.int .u64 0) := (blk_cell BK184.out 12).trans rfl; have hcz12_13 : w11.cell? ⟨gb184, 13, none⟩ = some (.slice none 0 0) := (blk_cell BK184.out 13).trans rfl; have hfz12_0 := blk_frozen BK184.out 0; have hfz12_1 := blk_frozen BK184.out 1; have hfz12_2 := blk_frozen BK184.out 2; have hfz12_3 := blk_frozen BK184.out 3; have hfz12_4 := blk_frozen BK184.out 4; have hfz12_5 := blk_frozen BK184.out 5; have hfz12_6 := blk_frozen BK184.out 6; have hfz12_7 := blk_frozen BK184.out 7; have hfz12_8 := blk_frozen BK184.out 8; have hfz12_9 := blk_frozen BK184.out 9; have hfz12_10 := blk_frozen BK184.out 10; have hfz12_11 := blk_frozen BK184.out 11; have hfz12_12 := blk_frozen BK184.out 12; have hfz12_13 := blk_frozen BK184.out 13))
                go_roundg k1
                case measure => have := HK1.out; omega
                case rel => exact ⟨(wrap64 (x7_1 + 1)), (by first | rfl | (simp; done) | (simp [*]; done)), H', ⟨by have := HK1.out; omega⟩, ⟨by repeat (first | (with_reducible first | exact HB.out | apply below_alloc | apply pw_below_drewN | apply below_drew1 | refine below_set ?_ GE184.out) | exact HB.out)⟩⟩
          · rw [if_neg c4] at H
            exact absurd H (by simp)
        · rw [if_neg c3] at H
          exact absurd H (by simp)
      · rw [if_neg c2] at H
        have c2b0 : decide (x7_1 < (l0.length : Int)) = false := decide_eq_false c2
        clear c2
        obtain rfl := Option.some.inj H
        go_wp2
        go_ret
        exact ⟨by first | rfl | (simp [errW_none, errW_some] <;> rfl) | (simp [*, errW_none, errW_some] <;> rfl), by repeat (first | (with_reducible first | exact HB.out | apply below_alloc | apply pw_below_drewN | apply below_drew1) | exact HB.out)⟩
def slices_Index_uint64_uint64.l0 : Nat → List Int → Int → Int → Int → Option (Int)
  | 0, _, _, _, _ => none
  | k + 1, x0, x1, x7, x8 => if x8 < x7 then (if 0 ≤ x8 then (if x8 < (x0.length : Int) then (if x1 = (rd x0 x8) then (some x8) else (slices_Index_uint64_uint64.l0 k x0 x1 x7 (wrap64 (x8 + 1)))) else (none)) else (none)) else (some (-1))
def slices_Index_uint64_uint64.f (k : Nat) (l0 : List Int) (a1 : Int) : Option (Int) := slices_Index_uint64_uint64.l0 k l0 a1 (l0.length : Int) 0
set_option maxHeartbeats 8000000 in
set_option maxRecDepth 100000 in
theorem slices_Index_uint64_uint64.calls (k : Nat) (A0 : Option Addr) (c0 : Nat) (l0 : List Int) (a1 : Int) (r : Int) (w : World) (hr0 : Kd.C (Kd.int .u64) w A0 l0.length l0) (hc0 : l0.length ≤ c0) (h : slices_Index_uint64_uint64.f k l0 a1 = some r) :
    Calls Try.prog 59 #[.slice A0 l0.length c0, .int .u64 a1] w fun e w' => e = .returned (.int .i64 r) ∧ Drawn0 w w' := by
  have HR0 := Aside0.mk hr0
  have HC0 := Aside0.mk hc0
  clear hr0 hc0
  have H : (slices_Index_uint64_uint64.l0 k l0 a1 (l0.length : Int) 0) = some r := h
  clear h
  have H' := Aside0.mk H
  clear H
  go_enter Try.func59, Try.ntmps59
  go_wp2
  go_loopg [8] k (fun kq v8 w' => ∃ (x8_1 : Int), v8 = .int .i64 x8_1 ∧ Aside0 (slices_Index_uint64_uint64.l0 kq l0 a1 (l0.length : Int) x8_1 = some r) ∧ Aside0 (kq ≤ k) ∧ Drawn0 w w')
  case atStart => exact ⟨(0), (by first | rfl | (simp; done) | (simp [*]; done)), H', ⟨Nat.le_refl _⟩, by repeat (first | exact Drawn0.refl _ | apply Drawn0.step)⟩
  case round =>
    clear H'
    try clear p2
    obtain ⟨x8_1, rfl, HA, HK1, ⟨m1, rfl⟩⟩ := hrel
    cases gk with
    | zero => exact absurd HA.out (by simp [slices_Index_uint64_uint64.l0])
    | succ k1 =>
      have H := HA.out
      clear HA
      simp only [slices_Index_uint64_uint64.l0] at H
      by_cases c3 : x8_1 < (l0.length : Int)
      · rw [if_pos c3] at H
        have c3b0 : decide (x8_1 < (l0.length : Int)) = true := decide_eq_true c3
        clear c3
        by_cases c4 : 0 ≤ x8_1
        · rw [if_pos c4] at H
          have c4b0 : decide (0 ≤ x8_1) = true := decide_eq_true c4
          clear c4
          by_cases c5 : x8_1 < (l0.length : Int)
          · rw [if_pos c5] at H
            have c5b0 : decide (x8_1 < (l0.length : Int)) = true := decide_eq_true c5
            clear c5
            by_cases c6 : a1 = (rd l0 x8_1)
            · rw [if_pos c6] at H
              have c6b0 : (a1 == (rd l0 x8_1)) = true := beq_iff_eq.mpr c6
              have c6b1 : (a1 != (rd l0 x8_1)) = false := bne_eq_false_iff_eq.mpr c6
              clear c6
              obtain rfl := Option.some.inj H
              have p185 : 0 ≤ (x8_1 : Int) := of_decide_eq_true (by first | (with_reducible assumption) | assumption)
              have q185 : x8_1 < (l0.length : Int) := of_decide_eq_true (by first | (with_reducible assumption) | assumption)
              obtain ⟨ad185, e185, hx185_0⟩ := Kd.at_int HR0.out x8_1 p185 q185
              cases e185
              replace p185 := eq_true p185
              replace q185 := eq_true q185
              go_wp2
              go_ret
              exact ⟨by first | rfl | (simp; done) | (simp [*]; done), by repeat (first | exact Drawn0.refl _ | apply Drawn0.step)⟩
            · rw [if_neg c6] at H
              have c6b0 : (a1 == (rd l0 x8_1)) = false := beq_eq_false_iff_ne.mpr c6
              have c6b1 : (a1 != (rd l0 x8_1)) = true := bne_iff_ne.mpr c6
              have H' := Aside0.mk H
              clear H
              have p185 : 0 ≤ (x8_1 : Int) := of_decide_eq_true (by first | (with_reducible assumption) | assumption)
              have q185 : x8_1 < (l0.length : Int) := of_decide_eq_true (by first | (with_reducible assumption) | assumption)
              obtain ⟨ad185, e185, hx185_0⟩ := Kd.at_int HR0.out x8_1 p185 q185
              cases e185
              replace p185 := eq_true p185
              replace q185 := eq_true q185
              go_wp2
              go_roundg k1
              case measure => have := HK1.out; omega
              case rel => exact ⟨(wrap64 (x8_1 + 1)), (by first | rfl | (simp; done) | (simp [*]; done)), H', ⟨by have := HK1.out; omega⟩, by repeat (first | exact Drawn0.refl _ | apply Drawn0.step)⟩
          · rw [if_neg c5] at H
            exact absurd H (by simp)
        · rw [if_neg c4] at H
          exact absurd H (by simp)
      · rw [if_neg c3] at H
        have c3b0 : decide (x8_1 < (l0.length : Int)) = false := decide_eq_false c3
        clear c3
        obtain rfl := Option.some.inj H
        go_wp2
        go_ret
        exact ⟨by first | rfl | (simp; done) | (simp [*]; done), by repeat (first | exact Drawn0.refl _ | apply Drawn0.step)⟩
def slices_Contains_uint64_uint64.f (k : Nat) (l0 : List Int) (a1 : Int) : Option (Bool) := (slices_Index_uint64_uint64.f k l0 a1).bind fun t186 => (some (decide (t186 ≥ 0)))
set_option maxHeartbeats 8000000 in
set_option maxRecDepth 100000 in
theorem slices_Contains_uint64_uint64.calls (k : Nat) (A0 : Option Addr) (c0 : Nat) (l0 : List Int) (a1 : Int) (r : Bool) (w : World) (hr0 : Kd.C (Kd.int .u64) w A0 l0.length l0) (hc0 : l0.length ≤ c0) (h : slices_Contains_uint64_uint64.f k l0 a1 = some r) :
    Calls Try.prog 45 #[.slice A0 l0.length c0, .int .u64 a1] w fun e w' => e = .returned (.bool r) ∧ Drawn0 w w' := by
  have HR0 := Aside0.mk hr0
  have HC0 := Aside0.mk hc0
  clear hr0 hc0
  have H : ((slices_Index_uint64_uint64.f k l0 a1).bind fun t186 => (some (decide (t186 ≥ 0)))) = some r := h
  clear h
  replace H := Option.bind_eq_some_iff.mp H
  obtain ⟨t186, A30, H⟩ := H
  replace H : (some (decide (t186 ≥ 0))) = some r := H
  have A3 := Aside0.mk A30
  clear A30
  obtain rfl := Option.some.inj H
  go_enter Try.func45, Try.ntmps45
  go_wp2_with (first | ((with_reducible refine gate_callee (f := 59) rfl ?_); refine goesL_ (some 7) rfl rfl Try.func59 (by kernel_rfl) rfl #[.slice A0 l0.length c0, .int .u64 a1] rfl (by (try simp only [List.map_toArray, List.map_cons, List.map_nil]); first | done | rfl | (simp only [List.length_drop, List.length_take]; rfl)) ?_; (with_reducible refine (slices_Index_uint64_uint64.calls k _ _ l0 a1 t186 _ ?side1 ?side2 A3.out).mono ?_); (case side1 => repeat (first | exact HR0.out | (with_reducible refine Kd.C_alloc ?_ _) | (with_reducible refine Kd.C_drewN ?_ _) | (with_reducible refine Kd.C_drew ?_))); (case side2 => exact HC0.out); rintro e w' ⟨rfl, ⟨nd, rfl⟩⟩; refine ⟨_, rfl, ?_⟩))
  go_ret
  exact ⟨by first | rfl | (simp; done) | (simp [*]; done), by repeat (first | exact Drawn0.refl _ | apply Drawn0.step)⟩
end Go.Proofs.Ytiihjijmmephlaa.GHist
