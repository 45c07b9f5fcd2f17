/- The law's own example, run outright by the evaluator. -/
import Derived.Test.YtmoimchdhgoeeaaDoorV0
set_option maxRecDepth 20000
namespace Go.Am.Rl
open Go.Proofs
theorem known0 : aclosed tab Orc.none 1000000 100 sz1 9 [] = some (.bool true) := by kernel_rfl
theorem g9 (H : AHeap) : DCall Tryd.prog 9 [] H fun a H' => a = .bool true ∧ H' = H := (aclosed_sound mixed tab_ok (Orc.none_ok _) known0 H).dcall
end Go.Am.Rl
