/- A row of terms, as an argument. -/
import Derived.Test.YtilfjbbfabcdlaaGreatDoorZT
import Derived.Test.YtilfjbbfabcdlaaGreatDoorAmS
import Derived.Test.YtilfjbbfabcdlaaGreatDoorB8
set_option linter.unusedVariables false
set_option linter.unusedSimpArgs false
set_option maxRecDepth 100000
namespace Go.Proofs.YtilfjbbfabcdlaaGreatDoor
open Go.Am Go.Am.Rl Go.RowKit
theorem opensTerms : Opens Tryz.prog 23 fun acs => ∃ nl l, (TM.of nl l).ok ∧ acs = [(TM.of nl l).row] := by
  have wf0 : (Lit.int .i64 0).wf = true := by kernel_rfl
  intro H enc w fuel cs d ps hd hs
  obtain ⟨acs, hv, h⟩ := Opens.slice Tryz.underlying23 opensTerm enc w fuel cs d ps hd hs
  refine ⟨acs, hv, ?_⟩
  rcases h with rfl | ⟨rs, h1, h2, h3, rfl⟩
  · exact ⟨true, [], ⟨by kernel_rfl, by kernel_rfl, by kernel_rfl, Nat.zero_le _, Nat.zero_le _, fun _ => rfl, trivial⟩, rfl⟩
  · obtain ⟨l, k1, k2, k3⟩ := TM.rows rs fun r hr => (h1 r hr).1
    refine ⟨false, l, ⟨by kernel_rfl, by kernel_rfl, by kernel_rfl, Nat.zero_le _, ?_, (fun h => nomatch h), k1⟩, by rw [k2, ← k3]; rfl⟩
    have h4 : rs.length * 64 ≤ reachBytes := by
      have h3' := h3
      rw [show Tryz.prog.bytesOf 25 = 64 by kernel_rfl] at h3'
      exact h3'
    rw [k3]
    simp only [reachBytes] at h4
    omega
end Go.Proofs.YtilfjbbfabcdlaaGreatDoor
