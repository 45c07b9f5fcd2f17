/- The law BifKinds behind 'right', at atoms: run by the kernel. -/
import Derived.Test.YtilfjbbfabcdlaaGreatDoorB9D
set_option linter.unusedVariables false
set_option linter.unusedSimpArgs false
set_option maxRecDepth 20000
namespace Go.Am.Rl
open Go.Proofs
theorem fin3_3t (n : Int) (f : Nat) (r : AVal) : Eq8 (.agg (c5 3 n f ⟨#[116, 114, 117, 101]⟩ r)) (true = true) = fin3 ov0 (c5 3 n f ⟨#[116, 114, 117, 101]⟩ r) := by kernel_rfl
theorem fin3_3f (n : Int) (f : Nat) (r : AVal) : Eq8 (.agg (c5 3 n f ⟨#[102, 97, 108, 115, 101]⟩ r)) (true = true) = fin3 ov0 (c5 3 n f ⟨#[102, 97, 108, 115, 101]⟩ r) := by kernel_rfl
theorem fin3_3o (n : Int) (f : Nat) (s : ByteArray) (r : AVal) : Eq8 (.agg (c5 3 n f s r)) (abin .eql (.str s) (.str ⟨#[116, 114, 117, 101]⟩) = some (.bool false) ∧ abin .eql (.str s) (.str ⟨#[102, 97, 108, 115, 101]⟩) = some (.bool false) ∧ abin .eql (.str s) (.str ⟨#[116, 114, 117, 101]⟩) = some (.bool false) ∧ abin .eql (.str s) (.str ⟨#[102, 97, 108, 115, 101]⟩) = some (.bool false) ∧ true = true) = fin3 ov3 (c5 3 n f s r) := by kernel_rfl
end Go.Am.Rl
