/- What is proved: the tied card of 'exitwavelaw5.LexAlone': it answers true for each input (LexAloneCardSaid). The listed variables hold what the program's text lays. -/
import Derived.Test.YtmoimchdhgoeeaaDoorZ0
import Derived.Test.YtmoimchdhgoeeaaDoorVE
import Derived.Test.YtmoimchdhgoeeaaDoorCards
import Derived.Test.YtmoimchdhgoeeaaDoorTie
import Derived.Test.YtmoimchdhgoeeaaDoorChecked
import Derived.SevenTiedAt
set_option linter.unusedVariables false
set_option linter.unusedSimpArgs false
namespace Go.Proofs.YtmoimchdhgoeeaaDoor
open Go.Am Go.Am.Rl Go.RowKit

set_option maxRecDepth 100000 in
theorem lexAlone_lifted (os : Os) (started : os.Started) (H : Type) (enc : TypeId × Value → H) :
    ReturnsInHanded {} Tryd.checked os 6 .any (fun w args => (Rows.lexAloneSpec.pre enc Tryd.prog Tryd.f6 [] false w args ∧ laidMetH Tryd.prog laid2 w) ∧ sizedMet enc Tryd.prog Tryd.f6 (OpenSpec.ofChange Rows.lexAloneSpec) false w args)
      (Rows.lexAloneSpec.post enc Tryd.prog Tryd.f6 false true false false) := by
  refine law_true_laid (C := Tryd.checked) (laid := laid2) (ps := [fun acs => ∃ s : ByteArray, s.size ≤ reachBytes ∧ acs = [.str s], fun acs => ∃ s : ByteArray, s.size ≤ reachBytes ∧ acs = [.str s]]) own laidOut started (by kernel_rfl) Tryd.func6
    (ChangeSpec.witness_shaped (enc := enc) (C := Tryd.checked) (os := os) (X := fun w _ => laidMetH Tryd.prog laid2 w) false (World.doorLaid Tryd.prog 400 os) #[.string ByteArray.empty, .string ByteArray.empty] 8 rfl (World.shaped_of_RefB (by kernel_rfl) (by kernel_rfl)) (by kernel_rfl) (by kernel_rfl) (by kernel_rfl) (door_met os _))
    (by kernel_rfl) (by kernel_rfl) Tryd.underlying4 rfl ?_ ?_ glob_laid ?_
  · intro ds hl
    have hp : Tryd.f6.params.toList = [9, 9] := by rw [Tryd.params6]
    rw [hp] at hl
    match ds, hl with
    | [d0, d1], _ => rfl
  · have hp : Tryd.f6.params.toList = [9, 9] := by rw [Tryd.params6]
    rw [hp]
    exact ⟨Opens.str Tryd.underlying9, Opens.str Tryd.underlying9, trivial⟩
  · intro vs has
    have hp : Tryd.f6.params.toList = [9, 9] := by rw [Tryd.params6]
    rw [hp] at has
    obtain ⟨acs, r, rfl, ⟨s, _, rfl⟩, acs2, r2, rfl, ⟨b, _, rfl⟩, rfl⟩ := has
    have ha : ∀ s, argOf Tryd.checked.prog 9 [.str s] = .str s := by
      intro s
      show argOf Tryd.prog 9 _ = _
      unfold argOf isAggT; rw [Tryd.underlying9]; rfl
    rw [ha, ha]
    exact (g6 s b).call

theorem lexAlone_holds : Rows.LexAloneSaid :=
  OpenClaim.holds_of_wide 6 Tryd.f6 rfl rfl rfl rfl rfl rfl rfl ⟨rfl, rfl, rfl, rfl, rfl⟩ rfl rfl rfl rfl rfl (by kernel_rfl) Tryd.func6 (by kernel_rfl)
    (of_decide_eq_true (by kernel_rfl)) (by unfold Func.isWrapper; first | (rw [if_pos (by decide +kernel)]; kernel_rfl) | (rw [if_neg (by decide +kernel)]; exact ⟨rfl, rfl⟩))
    (fun os started H enc _ => lexAlone_lifted os started H enc)

theorem lexAlone_card : Rows.LexAloneCardSaid :=
  Claim7.holds_tied_plain_at .later [] [.listed, .data] true (true, "f163c50bf504f3a4215a70944773d79dc79769d051773f70525d0651fa133124") false
    lexAlone_holds (fun _ h => by cases h) (by kernel_rfl) (fun _ h => by cases h) lexAlone_row_tie rfl ⟨rfl, rfl⟩ (by kernel_rfl) rfl
    (fun f fn hf hfn => by
      obtain rfl : f = 6 := Option.some.inj ((show Tryd.prog.funcNamed "exitwave/exitwavelaw5.LexAlone" = some 6 by kernel_rfl).symm.trans hf) |>.symm
      obtain rfl : fn = Tryd.f6 := (Option.some.inj (Tryd.func6.symm.trans hfn)).symm
      exact ⟨by kernel_rfl, fun j t ht => by
        rw [Tryd.params6] at ht
        have hm : t ∈ [9, 9] := by simpa using Array.mem_of_getElem? ht
        have hall : ([9, 9].all fun u => !Tryd.prog.wantsStandIn u) = true := by kernel_rfl
        exact (show Tryd.prog.wantsStandIn t = false by simpa using List.all_eq_true.1 hall t hm)⟩)
    (by kernel_rfl)
#print axioms lexAlone_card
end Go.Proofs.YtmoimchdhgoeeaaDoor
