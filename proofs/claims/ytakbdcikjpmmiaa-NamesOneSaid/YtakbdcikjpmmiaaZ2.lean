/- What is proved: 'exitwavelaw17.NamesOne' answers true for each input (NamesOneSaid). No conditions. -/
import Derived.Test.YtakbdcikjpmmiaaZ1
import Derived.Test.YtakbdcikjpmmiaaW16
set_option linter.unusedVariables false
set_option linter.unusedSimpArgs false
namespace Go.Proofs.Ytakbdcikjpmmiaa
open Go.Am Go.Am.Rn Go.RowKit

set_option maxRecDepth 100000 in
theorem namesOne_lifted (os : Os) (started : os.Started) (H : Type) (enc : TypeId × Value → H) :
    ReturnsInHanded {} Try.checked os 4 .any (Rows.namesOneSpec.pre6 enc Try.prog Try.f4 Rows.namesOneRow.domain false) (Rows.namesOneSpec.post enc Try.prog Try.f4 false true false false) := by
  refine law_true (C := Try.checked) (ps := [ActsP]) own laidOut started (by kernel_rfl) Try.func4
    (ChangeSpec.witness6 (enc := enc) (C := Try.checked) false ⟨#[], #[.slice none 0 0], []⟩ 8 (by kernel_rfl) (by kernel_rfl) (by kernel_rfl) (by kernel_rfl))
    (by kernel_rfl) (by kernel_rfl) Try.underlying4 rfl ?_ ?_ ?_
  · intro ds hl
    have hp : Try.f4.params.toList = [22] := by rw [Try.params4]
    rw [hp] at hl
    match ds, hl with
    | [d], _ => rfl
  · have hp : Try.f4.params.toList = [22] := by rw [Try.params4]
    rw [hp]
    exact ⟨opens_acts, trivial⟩
  · intro vs has
    have hp : Try.f4.params.toList = [22] := by rw [Try.params4]
    rw [hp] at has
    obtain ⟨acs, r, rfl, hacs, rfl⟩ := has
    have ha : argOf Try.checked.prog 22 acs = acs.headD .nilp := by
      show argOf Try.prog 22 acs = _
      unfold argOf isAggT; rw [Try.underlying22]; rfl
    rw [ha]
    rcases hacs with rfl | ⟨l, rfl⟩
    · exact (g4 Play2.nils).call
    · exact (g4 (Play2.ros l)).call

theorem namesOne_holds : Rows.NamesOneSaid :=
  OpenClaim.holds_of_wide 4 Try.f4 rfl rfl rfl rfl rfl rfl rfl ⟨rfl, rfl, rfl, rfl, rfl⟩ rfl rfl rfl rfl rfl (by kernel_rfl) Try.func4 (by kernel_rfl)
    (of_decide_eq_true (by kernel_rfl)) (by unfold Func.isWrapper; first | (rw [if_pos (by decide +kernel)]; kernel_rfl) | (rw [if_neg (by decide +kernel)]; exact ⟨rfl, rfl⟩))
    (fun os started H enc _ => namesOne_lifted os started H enc)
#print axioms namesOne_holds
end Go.Proofs.Ytakbdcikjpmmiaa
