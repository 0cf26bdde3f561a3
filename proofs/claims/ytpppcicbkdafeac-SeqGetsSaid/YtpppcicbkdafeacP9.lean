/- Own text, written by an own program: P9. -/
import Derived.Test.YtpppcicbkdafeacD5
namespace Go.Eng
open Go.Proofs Go.RowKit Go.Proofs.YtpppcicbkdafeacW.PrintWords Go.Proofs.Ytpppcicbkdafeac.GSeq
set_option linter.unusedVariables false
set_option linter.unusedSimpArgs false
theorem OpV.cast {P : Program} {n : Sz} {w0 : World} {I : Ix} {o : Oper} {F : FL} {L : HL} {u v : Value} (h : OpV P n w0 I o F L u) (e : u = v) : OpV P n w0 I o F L v := e ▸ h
theorem sameB_self (a0 a1 : Bool) (a2 : Int) (a3 : List Int) : sameB a0 a1 a2 a3 a0 a1 a2 a3 = true := by simp [sameB]
theorem sameB_comm (a0 a1 : Bool) (a2 : Int) (a3 : List Int) (b0 b1 : Bool) (b2 : Int) (b3 : List Int) : sameB a0 a1 a2 a3 b0 b1 b2 b3 = sameB b0 b1 b2 b3 a0 a1 a2 a3 := by
  have h2 : decide (a2 = b2) = decide (b2 = a2) := by by_cases h : a2 = b2 <;> simp [h, eq_comm]
  have h3 : decide (a3 = b3) = decide (b3 = a3) := by by_cases h : a3 = b3 <;> simp [h, eq_comm]
  simp only [sameB, h2, h3]
  cases a0 <;> cases b0 <;> cases a1 <;> cases b1 <;> rfl
theorem ins_end {l : List S52} {k v : Int} (h : ∀ q ∈ l, q.f0 < k) : ins l k v = l ++ [⟨k, v⟩] := by
  unfold ins
  rw [List.filter_eq_self.2 (fun q hq => by simpa using h q hq), List.filter_eq_nil_iff.2 (fun q hq => by have := h q hq; simp; omega), List.append_nil]
theorem ofL_app (l : List S52) : ∀ acc, Srt (acc ++ l) → ofL acc l = acc ++ l := by
  induction l with
  | nil => intro acc _; simp [ofL]
  | cons x r ih =>
    intro acc h
    have h1 : ∀ q ∈ acc, q.f0 < x.f0 := fun q hq => (List.pairwise_append.1 h).2.2 q hq x List.mem_cons_self
    show ofL (ins acc x.f0 x.f1) r = _
    rw [ins_end h1, ih _ (by rw [List.append_assoc]; exact h), List.append_assoc]
    rfl
theorem ofL_srt {l : List S52} (h : Srt l) : ofL [] l = l := by simpa using ofL_app l [] h
theorem ofL_srt' (l : List S52) : ofL [] (ofL [] l) = ofL [] l := ofL_srt (srt_ofL l [] List.Pairwise.nil)
theorem srtM (l : List S62) : Srt (ofL [] (l.map new)) := srt_ofL _ [] List.Pairwise.nil
theorem lenM (l : List S62) (h : ¬ (l.length : Int) > 100) : (ofL [] (l.map new)).length ≤ 100 := by
  have := ofL_len (l.map new) []
  simp only [List.length_nil, List.length_map] at this
  omega
end Go.Eng
