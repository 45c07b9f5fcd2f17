/- The type of terms, as an argument. -/
import Derived.Test.YtcmaphhbecjbjaaGreatDoorZ0
import Derived.Test.YtcmaphhbecjbjaaGreatDoorAmS
import Derived.Test.YtcmaphhbecjbjaaGreatDoorAmQ
set_option linter.unusedVariables false
set_option linter.unusedSimpArgs false
set_option maxRecDepth 100000
namespace Go.Proofs.YtcmaphhbecjbjaaGreatDoor
open Go.Am Go.RowKit
theorem termT : ∃ fs, TermT Tryz.prog 25 3 2 22 9 23 fs := by
  refine ⟨_, ⟨Tryz.underlying25, rfl, Tryz.underlying3, Tryz.underlying2, Tryz.underlying22, Tryz.underlying9, Tryz.underlying23, by kernel_rfl, by kernel_rfl, ?_⟩⟩
  have : Tryz.prog.bytesOf 25 = 64 := by kernel_rfl
  omega
theorem opensTerm : Opens Tryz.prog 25 fun acs => ∃ x : TM, x.ok ∧ acs = x.cells := let ⟨_, h⟩ := termT; Opens.term h
end Go.Proofs.YtcmaphhbecjbjaaGreatDoor
