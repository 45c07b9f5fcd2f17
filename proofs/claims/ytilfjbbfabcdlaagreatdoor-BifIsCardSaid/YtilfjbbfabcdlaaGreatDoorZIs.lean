/- What is proved: the tied card of 'exitwavelaw9.BifIs': it answers true for each input (BifIsCardSaid). The listed variables hold what the program's text lays. -/
import Derived.Test.YtilfjbbfabcdlaaGreatDoorZ0
import Derived.Test.YtilfjbbfabcdlaaGreatDoorB4
import Derived.Test.YtilfjbbfabcdlaaGreatDoorAm35
import Derived.Test.YtilfjbbfabcdlaaGreatDoorCards
import Derived.Test.YtilfjbbfabcdlaaGreatDoorTie
import Derived.Test.YtilfjbbfabcdlaaGreatDoorChecked
import Derived.SevenTiedAt
set_option linter.unusedVariables false
set_option linter.unusedSimpArgs false
namespace Go.Proofs.YtilfjbbfabcdlaaGreatDoor
open Go.Am Go.Am.Rl Go.RowKit

set_option maxRecDepth 100000 in
theorem bifIs_lifted (os : Os) (started : os.Started) (H : Type) (enc : TypeId × Value → H) :
    ReturnsInHanded {} Tryz.checked os 6 .any (fun w args => (Rows.bifIsSpec.pre enc Tryz.prog Tryz.f6 [] false w args ∧ laidMetH Tryz.prog laid2 w) ∧ sizedMet enc Tryz.prog Tryz.f6 (OpenSpec.ofChange Rows.bifIsSpec) false w args)
      (Rows.bifIsSpec.post enc Tryz.prog Tryz.f6 false true false false) := by
  refine law_true_laid (C := Tryz.checked) (laid := laid2) (ps := [fun acs => ∃ s : ByteArray, s.size ≤ reachBytes ∧ acs = [.str s], fun acs => ∃ n, (Lit.int .i64 n).wf = true ∧ acs = [.int .i64 n]]) own laidOut started (by kernel_rfl) Tryz.func6
    (ChangeSpec.witness_shaped (enc := enc) (C := Tryz.checked) (os := os) (X := fun w _ => laidMetH Tryz.prog laid2 w) false (World.doorLaid Tryz.prog 400 os) #[.string ByteArray.empty, .int .i64 0] 8 rfl (World.shaped_of_RefB (by kernel_rfl) (by kernel_rfl)) (by kernel_rfl) (by kernel_rfl) (by kernel_rfl) (door_met os _))
    (by kernel_rfl) (by kernel_rfl) Tryz.underlying4 rfl ?_ ?_ glob_laid ?_
  · intro ds hl
    have hp : Tryz.f6.params.toList = [9, 3] := by rw [Tryz.params6]
    rw [hp] at hl
    match ds, hl with
    | [d0, d1], _ => rfl
  · have hp : Tryz.f6.params.toList = [9, 3] := by rw [Tryz.params6]
    rw [hp]
    exact ⟨Opens.str Tryz.underlying9, Opens.int (k := .i64) Tryz.underlying3, trivial⟩
  · intro vs has
    have hp : Tryz.f6.params.toList = [9, 3] := by rw [Tryz.params6]
    rw [hp] at has
    obtain ⟨acs, r, rfl, ⟨s, _, rfl⟩, acs2, r2, rfl, ⟨b, _, rfl⟩, rfl⟩ := has
    have ha : ∀ s, argOf Tryz.checked.prog 9 [.str s] = .str s := by
      intro s
      show argOf Tryz.prog 9 _ = _
      unfold argOf isAggT; rw [Tryz.underlying9]; rfl
    have hb : ∀ n, argOf Tryz.checked.prog 3 [.int .i64 n] = .int .i64 n := by
      intro n
      show argOf Tryz.prog 3 _ = _
      unfold argOf isAggT; rw [Tryz.underlying3]; rfl
    rw [ha, hb]
    exact (g6 AHeap.empty s b).call

theorem bifIs_holds : Rows.BifIsSaid :=
  OpenClaim.holds_of_wide 6 Tryz.f6 rfl rfl rfl rfl rfl rfl rfl ⟨rfl, rfl, rfl, rfl, rfl⟩ rfl rfl rfl rfl rfl (by kernel_rfl) Tryz.func6 (by kernel_rfl)
    (of_decide_eq_true (by kernel_rfl)) (by unfold Func.isWrapper; first | (rw [if_pos (by decide +kernel)]; kernel_rfl) | (rw [if_neg (by decide +kernel)]; exact ⟨rfl, rfl⟩))
    (fun os started H enc _ => bifIs_lifted os started H enc)

theorem bifIs_card : Rows.BifIsCardSaid :=
  Claim7.holds_tied_plain_at .later [] [.data, .data, .data, .sentinel, .sentinel] true (true, "734ac4606e40fa6dd4aed9fc34fb2599822689e404be667e57ed7cfbb5655ea3") true
    bifIs_holds (fun _ h => by cases h) (by kernel_rfl) (fun _ h => by cases h) bifIs_row_tie rfl ⟨rfl, rfl⟩ (by kernel_rfl) rfl
    (fun f fn hf hfn => by
      obtain rfl : f = 6 := Option.some.inj ((show Tryz.prog.funcNamed "exitwave/exitwavelaw9.BifIs" = some 6 by kernel_rfl).symm.trans hf) |>.symm
      obtain rfl : fn = Tryz.f6 := (Option.some.inj (Tryz.func6.symm.trans hfn)).symm
      exact ⟨by kernel_rfl, fun j t ht => by
        rw [Tryz.params6] at ht
        have hm : t ∈ [9, 3] := by simpa using Array.mem_of_getElem? ht
        have hall : ([9, 3].all fun u => !Tryz.prog.wantsStandIn u) = true := by kernel_rfl
        exact (show Tryz.prog.wantsStandIn t = false by simpa using List.all_eq_true.1 hall t hm)⟩)
    (by kernel_rfl)
#print axioms bifIs_card
end Go.Proofs.YtilfjbbfabcdlaaGreatDoor
