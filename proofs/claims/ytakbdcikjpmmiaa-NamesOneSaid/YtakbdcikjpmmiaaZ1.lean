/- What is proved: 'exitwavelaw17.NamesPlays' answers true for each input (NamesPlaysSaid). No conditions. -/
import Derived.Test.YtakbdcikjpmmiaaRows
import Derived.Test.YtakbdcikjpmmiaaW14
import Derived.Test.YtakbdcikjpmmiaaAm30
set_option linter.unusedVariables false
set_option linter.unusedSimpArgs false
namespace Go.Proofs.Ytakbdcikjpmmiaa
open Go.Am Go.Am.Rn Go.RowKit

theorem own : ownKnob Try.prog.godebug = none := by kernel_rfl
theorem laidOut : laidOutB Try.prog = true := by kernel_rfl

/-- The rows of acts, as lists of acts. -/
theorem acts_of : ∀ rs : List (List AVal), (∀ r ∈ rs, ∃ a : ActT, r = actCells a) → ∃ l : List ActT, rs.flatten = l.flatMap actCells ∧ rs.length = l.length
  | [], _ => ⟨[], rfl, rfl⟩
  | r :: rs, h => by
    obtain ⟨a, rfl⟩ := h r (by simp)
    obtain ⟨l, h1, h2⟩ := acts_of rs fun r hr => h r (by simp [hr])
    exact ⟨a :: l, by simp [h1], by simp [h2]⟩

def ActsP (acs : List AVal) : Prop := acs = [.nils] ∨ ∃ l : List ActT, acs = [.ros (l.flatMap actCells) l.length]
theorem opens_acts : Opens Try.prog 22 ActsP := by
  refine Opens.mono (Opens.slice Try.underlying22 (Opens.struct Try.underlying32 (ps := [_, _, _]) ⟨rfl, Opens.int Try.underlying3, rfl, Opens.str Try.underlying9, rfl, Opens.int Try.underlying3, trivial⟩ (by kernel_rfl))) fun acs h => ?_
  rcases h with h | ⟨rs, hrs, _, _, h⟩
  · exact .inl h
  · refine .inr ?_
    obtain ⟨l, h1, h2⟩ := acts_of rs fun r hr => by
      obtain ⟨⟨a, r1, rfl, ⟨n, _, rfl⟩, b, r2, rfl, ⟨s, _, rfl⟩, c, r3, rfl, ⟨m, _, rfl⟩, rfl⟩, _⟩ := hrs r hr
      exact ⟨(n, s, m), rfl⟩
    exact ⟨l, by rw [h, h1, h2]⟩

set_option maxRecDepth 100000 in
theorem namesPlays_lifted (os : Os) (started : os.Started) (H : Type) (enc : TypeId × Value → H) :
    ReturnsInHanded {} Try.checked os 3 .any (Rows.namesPlaysSpec.pre6 enc Try.prog Try.f3 Rows.namesPlaysRow.domain false) (Rows.namesPlaysSpec.post enc Try.prog Try.f3 false true false false) := by
  refine law_true (C := Try.checked) (ps := [ActsP]) own laidOut started (by kernel_rfl) Try.func3
    (ChangeSpec.witness6 (enc := enc) (C := Try.checked) false ⟨#[], #[.slice none 0 0], []⟩ 8 (by kernel_rfl) (by kernel_rfl) (by kernel_rfl) (by kernel_rfl))
    (by kernel_rfl) (by kernel_rfl) Try.underlying4 rfl ?_ ?_ ?_
  · intro ds hl
    have hp : Try.f3.params.toList = [22] := by rw [Try.params3]
    rw [hp] at hl
    match ds, hl with
    | [d], _ => rfl
  · have hp : Try.f3.params.toList = [22] := by rw [Try.params3]
    rw [hp]
    exact ⟨opens_acts, trivial⟩
  · intro vs has
    have hp : Try.f3.params.toList = [22] := by rw [Try.params3]
    rw [hp] at has
    obtain ⟨acs, r, rfl, hacs, rfl⟩ := has
    have ha : argOf Try.checked.prog 22 acs = acs.headD .nilp := by
      show argOf Try.prog 22 acs = _
      unfold argOf isAggT; rw [Try.underlying22]; rfl
    rw [ha]
    rcases hacs with rfl | ⟨l, rfl⟩
    · exact (g3 Play.nils).call
    · exact (g3 (Play.ros l)).call

theorem namesPlays_holds : Rows.NamesPlaysSaid :=
  OpenClaim.holds_of_wide 3 Try.f3 rfl rfl rfl rfl rfl rfl rfl ⟨rfl, rfl, rfl, rfl, rfl⟩ rfl rfl rfl rfl rfl (by kernel_rfl) Try.func3 (by kernel_rfl)
    (of_decide_eq_true (by kernel_rfl)) (by unfold Func.isWrapper; first | (rw [if_pos (by decide +kernel)]; kernel_rfl) | (rw [if_neg (by decide +kernel)]; exact ⟨rfl, rfl⟩))
    (fun os started H enc _ => namesPlays_lifted os started H enc)
#print axioms namesPlays_holds
end Go.Proofs.Ytakbdcikjpmmiaa
