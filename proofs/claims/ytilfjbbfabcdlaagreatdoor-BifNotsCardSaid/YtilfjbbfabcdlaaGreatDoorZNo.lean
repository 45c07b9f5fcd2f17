/- What is proved: the tied card of 'exitwavelaw9.BifNots': it answers true for each input (BifNotsCardSaid). The listed variables hold what the program's text lays. -/
import Derived.Test.YtilfjbbfabcdlaaGreatDoorZ0
import Derived.Test.YtilfjbbfabcdlaaGreatDoorBR
import Derived.Test.YtilfjbbfabcdlaaGreatDoorZC
import Derived.Test.YtilfjbbfabcdlaaGreatDoorZT
import Derived.Test.YtilfjbbfabcdlaaGreatDoorCards
import Derived.Test.YtilfjbbfabcdlaaGreatDoorTie
import Derived.Test.YtilfjbbfabcdlaaGreatDoorChecked
import Derived.SevenTiedAt
set_option linter.unusedVariables false
set_option linter.unusedSimpArgs false
namespace Go.Proofs.YtilfjbbfabcdlaaGreatDoor
open Go.Am Go.Am.Rl Go.RowKit

set_option maxRecDepth 100000 in
theorem bifNots_lifted (os : Os) (started : os.Started) (H : Type) (enc : TypeId × Value → H) :
    ReturnsInHanded {} Tryz.checked os 5 .any (fun w args => (Rows.bifNotsSpec.pre enc Tryz.prog Tryz.f5 [] false w args ∧ laidMetH Tryz.prog laid2 w) ∧ sizedMet enc Tryz.prog Tryz.f5 (OpenSpec.ofChange Rows.bifNotsSpec) false w args)
      (Rows.bifNotsSpec.post enc Tryz.prog Tryz.f5 false true false false) := by
  refine law_true_laid (C := Tryz.checked) (laid := laid2) (ps := [fun acs => ∃ x : TM, x.ok ∧ acs = x.cells]) own laidOut started (by kernel_rfl) Tryz.func5
    (ChangeSpec.witness_shaped (enc := enc) (C := Tryz.checked) (os := os) (X := fun w _ => laidMetH Tryz.prog laid2 w) false (World.doorLaid Tryz.prog 400 os) #[.agg #[.int .i64 0, .int .i64 0, .float .f64 0, .string ByteArray.empty, .slice none 0 0]] 8 rfl (World.shaped_of_RefB (by kernel_rfl) (by kernel_rfl)) (by kernel_rfl) (by kernel_rfl) (by kernel_rfl) (door_met os _))
    (by kernel_rfl) (by kernel_rfl) Tryz.underlying4 rfl ?_ ?_ glob_laid ?_
  · intro ds hl
    have hp : Tryz.f5.params.toList = [25] := by rw [Tryz.params5]
    rw [hp] at hl
    match ds, hl with
    | [d0], _ => rfl
  · have hp : Tryz.f5.params.toList = [25] := by rw [Tryz.params5]
    rw [hp]
    exact ⟨opensTerm, trivial⟩
  · intro vs has
    have hp : Tryz.f5.params.toList = [25] := by rw [Tryz.params5]
    rw [hp] at has
    obtain ⟨acs, r, rfl, ⟨x, hx, rfl⟩, rfl⟩ := has
    have ha : argOf Tryz.checked.prog 25 x.cells = x.agg := by
      show argOf Tryz.prog 25 _ = _
      unfold argOf isAggT; rw [Tryz.underlying25]
      exact TM.agg_eq x
    rw [ha]
    exact (g5 hx).call

theorem bifNots_holds : Rows.BifNotsSaid :=
  OpenClaim.holds_of_wide 5 Tryz.f5 rfl rfl rfl rfl rfl rfl rfl ⟨rfl, rfl, rfl, rfl, rfl⟩ rfl rfl rfl rfl rfl (by kernel_rfl) Tryz.func5 (by kernel_rfl)
    (of_decide_eq_true (by kernel_rfl)) (by unfold Func.isWrapper; first | (rw [if_pos (by decide +kernel)]; kernel_rfl) | (rw [if_neg (by decide +kernel)]; exact ⟨rfl, rfl⟩))
    (fun os started H enc _ => bifNots_lifted os started H enc)

theorem bifNots_card : Rows.BifNotsCardSaid :=
  Claim7.holds_tied_plain_at .later [] [.data, .data, .data, .sentinel, .sentinel] true (true, "734ac4606e40fa6dd4aed9fc34fb2599822689e404be667e57ed7cfbb5655ea3") true
    bifNots_holds (fun _ h => by cases h) (by kernel_rfl) (fun _ h => by cases h) bifNots_row_tie rfl ⟨rfl, rfl⟩ (by kernel_rfl) rfl
    (fun f fn hf hfn => by
      obtain rfl : f = 5 := Option.some.inj ((show Tryz.prog.funcNamed "exitwave/exitwavelaw9.BifNots" = some 5 by kernel_rfl).symm.trans hf) |>.symm
      obtain rfl : fn = Tryz.f5 := (Option.some.inj (Tryz.func5.symm.trans hfn)).symm
      exact ⟨by kernel_rfl, fun j t ht => by
        rw [Tryz.params5] at ht
        have hm : t ∈ [25] := by simpa using Array.mem_of_getElem? ht
        have hall : ([25].all fun u => !Tryz.prog.wantsStandIn u) = true := by kernel_rfl
        exact (show Tryz.prog.wantsStandIn t = false by simpa using List.all_eq_true.1 hall t hm)⟩)
    (by kernel_rfl)
#print axioms bifNots_card
end Go.Proofs.YtilfjbbfabcdlaaGreatDoor
