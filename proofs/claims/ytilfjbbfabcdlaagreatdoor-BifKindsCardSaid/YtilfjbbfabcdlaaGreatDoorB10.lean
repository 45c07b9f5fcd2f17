/- The law BifKinds behind 'right', at four kinds: run by the kernel. -/
import Derived.Test.YtilfjbbfabcdlaaGreatDoorB9D
set_option linter.unusedVariables false
set_option linter.unusedSimpArgs false
set_option maxRecDepth 20000
namespace Go.Am.Rl
open Go.Proofs
theorem fin3_5 (n : Int) (f : Nat) (s : ByteArray) (r : AVal) : Eq8 (.agg (c5 5 n f s r)) (true = true) = fin3 ov0 (c5 5 n f s r) := by kernel_rfl
theorem fin3_6 (n : Int) (f : Nat) (s : ByteArray) (r : AVal) : Eq8 (.agg (c5 6 n f s r)) (true = true) = fin3 ov0 (c5 6 n f s r) := by kernel_rfl
theorem fin3_7 (n : Int) (f : Nat) (s : ByteArray) (r : AVal) : Eq8 (.agg (c5 7 n f s r)) (true = true) = fin3 ov0 (c5 7 n f s r) := by kernel_rfl
theorem fin3_8 (n : Int) (f : Nat) (s : ByteArray) (r : AVal) : Eq8 (.agg (c5 8 n f s r)) (true = true) = fin3 ov0 (c5 8 n f s r) := by kernel_rfl
end Go.Am.Rl
