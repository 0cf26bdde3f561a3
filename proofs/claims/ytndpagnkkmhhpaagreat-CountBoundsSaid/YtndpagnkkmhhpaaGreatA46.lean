/-
Chapter 23's alive: worked out.
-/
import Derived.Test.YtndpagnkkmhhpaaGreatZ19
import Derived.Test.YtndpagnkkmhhpaaGreatNvZ
import Derived.Test.YtndpagnkkmhhpaaGreatProg
import Derived.KernelRfl
namespace Go.Run
open Go.Proofs
theorem followsZ : Tryz.prog.follows .mixedOrders = true := by kernel_rfl
theorem namesZ : (Tryz.prog.funcs.toList.all fun fn => !(fn.name == "runtime.NumGoroutine")) = true := by kernel_rfl
theorem a46 : isT (go Tryz.prog (noO nvZOf) 1000000 (.call 46 [] ⟨.e, 0, [], []⟩)) = true := by kernel_rfl
theorem yes46 : YesOK Tryz.prog [46] := fun g hg => by
  obtain rfl := List.mem_singleton.1 hg
  exact ⟨⟨Tryz.f46, by kernel_rfl, by kernel_rfl⟩, fun w => run_true followsZ namesZ noO_ok 1000000 46 a46 w⟩
end Go.Run
