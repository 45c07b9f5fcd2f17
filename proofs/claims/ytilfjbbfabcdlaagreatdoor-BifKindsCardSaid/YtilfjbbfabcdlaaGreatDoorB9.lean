/- The law BifKinds behind 'right', at three kinds: run by the kernel. -/
import Derived.Test.YtilfjbbfabcdlaaGreatDoorB9D
set_option linter.unusedVariables false
set_option linter.unusedSimpArgs false
set_option maxRecDepth 20000
namespace Go.Am.Rl
open Go.Proofs
theorem fin3_1 (n : Int) (f : Nat) (s : ByteArray) (r : AVal) : Eq8 (.agg (c5 1 n f s r)) (true = true) = fin3 ov0 (c5 1 n f s r) := by kernel_rfl
theorem fin3_2 (n : Int) (f : Nat) (s : ByteArray) (r : AVal) : Eq8 (.agg (c5 2 n f s r)) (true = true) = fin3 ov0 (c5 2 n f s r) := by kernel_rfl
theorem fin3_4 (n : Int) (f : Nat) (s : ByteArray) (r : AVal) : Eq8 (.agg (c5 4 n f s r)) (true = true) = fin3 ov0 (c5 4 n f s r) := by kernel_rfl
end Go.Am.Rl
