/- What is proved: the tied card of 'exitwavelaw5.LexLong': it answers true for each input (LexLongCardSaid). The listed variables hold what the program's text lays. -/
import Derived.Test.YtmoimchdhgoeeaaDoorZ0
import Derived.Test.YtmoimchdhgoeeaaDoorVD
import Derived.Test.YtmoimchdhgoeeaaDoorCards
import Derived.Test.YtmoimchdhgoeeaaDoorTie
import Derived.Test.YtmoimchdhgoeeaaDoorChecked
import Derived.SevenTiedAt
set_option linter.unusedVariables false
set_option linter.unusedSimpArgs false
namespace Go.Proofs.YtmoimchdhgoeeaaDoor
open Go.Am Go.Am.Rl Go.RowKit

set_option maxRecDepth 100000 in
theorem lexLong_lifted (os : Os) (started : os.Started) (H : Type) (enc : TypeId × Value → H) :
    ReturnsInHanded {} Tryd.checked os 4 .any (fun w args => (Rows.lexLongSpec.pre enc Tryd.prog Tryd.f4 [] false w args ∧ laidMetH Tryd.prog laid2 w) ∧ sizedMet enc Tryd.prog Tryd.f4 (OpenSpec.ofChange Rows.lexLongSpec) false w args)
      (Rows.lexLongSpec.post enc Tryd.prog Tryd.f4 false true false false) := by
  refine law_true_laid (C := Tryd.checked) (laid := laid2) (ps := [fun acs => ∃ s : ByteArray, s.size ≤ reachBytes ∧ acs = [.str s], fun acs => ∃ n, (Lit.int .i64 n).wf = true ∧ acs = [.int .i64 n]]) own laidOut started (by kernel_rfl) Tryd.func4
    (ChangeSpec.witness_shaped (enc := enc) (C := Tryd.checked) (os := os) (X := fun w _ => laidMetH Tryd.prog laid2 w) false (World.doorLaid Tryd.prog 400 os) #[.string ByteArray.empty, .int .i64 0] 8 rfl (World.shaped_of_RefB (by kernel_rfl) (by kernel_rfl)) (by kernel_rfl) (by kernel_rfl) (by kernel_rfl) (door_met os _))
    (by kernel_rfl) (by kernel_rfl) Tryd.underlying4 rfl ?_ ?_ glob_laid ?_
  · intro ds hl
    have hp : Tryd.f4.params.toList = [9, 3] := by rw [Tryd.params4]
    rw [hp] at hl
    match ds, hl with
    | [d0, d1], _ => rfl
  · have hp : Tryd.f4.params.toList = [9, 3] := by rw [Tryd.params4]
    rw [hp]
    exact ⟨Opens.str Tryd.underlying9, Opens.int (k := .i64) Tryd.underlying3, trivial⟩
  · intro vs has
    have hp : Tryd.f4.params.toList = [9, 3] := by rw [Tryd.params4]
    rw [hp] at has
    obtain ⟨acs, r, rfl, ⟨s, _, rfl⟩, acs2, r2, rfl, ⟨n, _, rfl⟩, rfl⟩ := has
    have ha : argOf Tryd.checked.prog 9 [.str s] = .str s := by
      show argOf Tryd.prog 9 _ = _
      unfold argOf isAggT; rw [Tryd.underlying9]; rfl
    have hb : argOf Tryd.checked.prog 3 [.int .i64 n] = .int .i64 n := by
      show argOf Tryd.prog 3 _ = _
      unfold argOf isAggT; rw [Tryd.underlying3]; rfl
    rw [ha, hb]
    exact (g4 s n).call

theorem lexLong_holds : Rows.LexLongSaid :=
  OpenClaim.holds_of_wide 4 Tryd.f4 rfl rfl rfl rfl rfl rfl rfl ⟨rfl, rfl, rfl, rfl, rfl⟩ rfl rfl rfl rfl rfl (by kernel_rfl) Tryd.func4 (by kernel_rfl)
    (of_decide_eq_true (by kernel_rfl)) (by unfold Func.isWrapper; first | (rw [if_pos (by decide +kernel)]; kernel_rfl) | (rw [if_neg (by decide +kernel)]; exact ⟨rfl, rfl⟩))
    (fun os started H enc _ => lexLong_lifted os started H enc)

theorem lexLong_card : Rows.LexLongCardSaid :=
  Claim7.holds_tied_plain_at .later [] [.listed, .data] true (true, "f163c50bf504f3a4215a70944773d79dc79769d051773f70525d0651fa133124") false
    lexLong_holds (fun _ h => by cases h) (by kernel_rfl) (fun _ h => by cases h) lexLong_row_tie rfl ⟨rfl, rfl⟩ (by kernel_rfl) rfl
    (fun f fn hf hfn => by
      obtain rfl : f = 4 := Option.some.inj ((show Tryd.prog.funcNamed "exitwave/exitwavelaw5.LexLong" = some 4 by kernel_rfl).symm.trans hf) |>.symm
      obtain rfl : fn = Tryd.f4 := (Option.some.inj (Tryd.func4.symm.trans hfn)).symm
      exact ⟨by kernel_rfl, fun j t ht => by
        rw [Tryd.params4] at ht
        have hm : t ∈ [9, 3] := by simpa using Array.mem_of_getElem? ht
        have hall : ([9, 3].all fun u => !Tryd.prog.wantsStandIn u) = true := by kernel_rfl
        exact (show Tryd.prog.wantsStandIn t = false by simpa using List.all_eq_true.1 hall t hm)⟩)
    (by kernel_rfl)
#print axioms lexLong_card
end Go.Proofs.YtmoimchdhgoeeaaDoor
