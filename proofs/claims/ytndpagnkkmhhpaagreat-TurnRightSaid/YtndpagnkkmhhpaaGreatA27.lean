/-
Chapter 19's alive: worked out.
-/
import Derived.Test.YtndpagnkkmhhpaaGreatZ19
import Derived.Test.YtndpagnkkmhhpaaGreatNvZ
import Derived.Test.YtndpagnkkmhhpaaGreatProg
import Derived.KernelRfl
namespace Go.Run
open Go.Proofs
theorem followsZ : Tryz.prog.follows .mixedOrders = true := by kernel_rfl
theorem namesZ : (Tryz.prog.funcs.toList.all fun fn => !(fn.name == "runtime.NumGoroutine")) = true := by kernel_rfl
theorem a27 : isT (go Tryz.prog (noO nvZOf) 1000000 (.call 27 [] ⟨.e, 0, [], []⟩)) = true := by kernel_rfl
theorem yes27 : YesOK Tryz.prog [27] := fun g hg => by
  obtain rfl := List.mem_singleton.1 hg
  exact ⟨⟨Tryz.f27, by kernel_rfl, by kernel_rfl⟩, fun w => run_true followsZ namesZ noO_ok 1000000 27 a27 w⟩
end Go.Run
