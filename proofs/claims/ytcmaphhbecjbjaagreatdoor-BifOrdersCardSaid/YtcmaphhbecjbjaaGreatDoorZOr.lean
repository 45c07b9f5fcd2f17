/- What is proved: the tied card of 'exitwavelaw9.BifOrders': it answers true for each input (BifOrdersCardSaid). The listed variables hold what the program's text lays. -/
import Derived.Test.YtcmaphhbecjbjaaGreatDoorZ0
import Derived.Test.YtcmaphhbecjbjaaGreatDoorOZ
import Derived.Test.YtcmaphhbecjbjaaGreatDoorZC
import Derived.Test.YtcmaphhbecjbjaaGreatDoorZT
import Derived.Test.YtcmaphhbecjbjaaGreatDoorCards
import Derived.Test.YtcmaphhbecjbjaaGreatDoorTie
import Derived.Test.YtcmaphhbecjbjaaGreatDoorChecked
import Derived.SevenTiedAt
set_option linter.unusedVariables false
set_option linter.unusedSimpArgs false
namespace Go.Proofs.YtcmaphhbecjbjaaGreatDoor
open Go.Am Go.Am.Rl Go.RowKit

set_option maxRecDepth 100000 in
theorem bifOrders_lifted (os : Os) (started : os.Started) (H : Type) (enc : TypeId × Value → H) :
    ReturnsInHanded {} Tryz.checked os 4 .any (fun w args => (Rows.bifOrdersSpec.pre enc Tryz.prog Tryz.f4 [] false w args ∧ laidMetH Tryz.prog laid2 w) ∧ sizedMet enc Tryz.prog Tryz.f4 (OpenSpec.ofChange Rows.bifOrdersSpec) false w args)
      (Rows.bifOrdersSpec.post enc Tryz.prog Tryz.f4 false true false false) := by
  refine law_true_laid (C := Tryz.checked) (laid := laid2) (ps := [fun acs => ∃ x : TM, x.ok ∧ acs = x.cells, fun acs => ∃ x : TM, x.ok ∧ acs = x.cells]) own laidOut started (by kernel_rfl) Tryz.func4
    (ChangeSpec.witness_shaped (enc := enc) (C := Tryz.checked) (os := os) (X := fun w _ => laidMetH Tryz.prog laid2 w) false (World.doorLaid Tryz.prog 400 os) #[.agg #[.int .i64 0, .int .i64 0, .float .f64 0, .string ByteArray.empty, .slice none 0 0], .agg #[.int .i64 0, .int .i64 0, .float .f64 0, .string ByteArray.empty, .slice none 0 0]] 8 rfl (World.shaped_of_RefB (by kernel_rfl) (by kernel_rfl)) (by kernel_rfl) (by kernel_rfl) (by kernel_rfl) (door_met os _))
    (by kernel_rfl) (by kernel_rfl) Tryz.underlying4 rfl ?_ ?_ glob_laid ?_
  · intro ds hl
    have hp : Tryz.f4.params.toList = [25, 25] := by rw [Tryz.params4]
    rw [hp] at hl
    match ds, hl with
    | [d0, d1], _ => rfl
  · have hp : Tryz.f4.params.toList = [25, 25] := by rw [Tryz.params4]
    rw [hp]
    exact ⟨opensTerm, opensTerm, trivial⟩
  · intro vs has
    have hp : Tryz.f4.params.toList = [25, 25] := by rw [Tryz.params4]
    rw [hp] at has
    obtain ⟨acs, r, rfl, ⟨x, hx, rfl⟩, acs1, r1, rfl, ⟨y, hy, rfl⟩, rfl⟩ := has
    have ha : ∀ x : TM, argOf Tryz.checked.prog 25 x.cells = x.agg := by
      intro x
      show argOf Tryz.prog 25 _ = _
      unfold argOf isAggT; rw [Tryz.underlying25]
      exact TM.agg_eq x
    rw [ha, ha]
    exact (g4 hx hy).call

theorem bifOrders_holds : Rows.BifOrdersSaid :=
  OpenClaim.holds_of_wide 4 Tryz.f4 rfl rfl rfl rfl rfl rfl rfl ⟨rfl, rfl, rfl, rfl, rfl⟩ rfl rfl rfl rfl rfl (by kernel_rfl) Tryz.func4 (by kernel_rfl)
    (of_decide_eq_true (by kernel_rfl)) (by unfold Func.isWrapper; first | (rw [if_pos (by decide +kernel)]; kernel_rfl) | (rw [if_neg (by decide +kernel)]; exact ⟨rfl, rfl⟩))
    (fun os started H enc _ => bifOrders_lifted os started H enc)

theorem bifOrders_card : Rows.BifOrdersCardSaid :=
  Claim7.holds_tied_plain_at .later [] [.data, .data, .data, .sentinel, .sentinel] true (true, "c6ff1c1333b0e313d706ec627ddc37d7f32d452873c0c516458e1aa87acc4b33") true
    bifOrders_holds (fun _ h => by cases h) (by kernel_rfl) (fun _ h => by cases h) bifOrders_row_tie rfl ⟨rfl, rfl⟩ (by kernel_rfl) rfl
    (fun f fn hf hfn => by
      obtain rfl : f = 4 := Option.some.inj ((show Tryz.prog.funcNamed "exitwave/exitwavelaw9.BifOrders" = some 4 by kernel_rfl).symm.trans hf) |>.symm
      obtain rfl : fn = Tryz.f4 := (Option.some.inj (Tryz.func4.symm.trans hfn)).symm
      exact ⟨by kernel_rfl, fun j t ht => by
        rw [Tryz.params4] at ht
        have hm : t ∈ [25, 25] := by simpa using Array.mem_of_getElem? ht
        have hall : ([25, 25].all fun u => !Tryz.prog.wantsStandIn u) = true := by kernel_rfl
        exact (show Tryz.prog.wantsStandIn t = false by simpa using List.all_eq_true.1 hall t hm)⟩)
    (by kernel_rfl)
#print axioms bifOrders_card
end Go.Proofs.YtcmaphhbecjbjaaGreatDoor
