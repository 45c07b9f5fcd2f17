/- What is proved: the tied card of 'exitwavelaw5.LexFloats': it answers true for each input (LexFloatsCardSaid). The listed variables hold what the program's text lays. -/
import Derived.Test.YtmoimchdhgoeeaaDoorZ0
import Derived.Test.YtmoimchdhgoeeaaDoorV34
import Derived.Test.YtmoimchdhgoeeaaDoorCards
import Derived.Test.YtmoimchdhgoeeaaDoorTie
import Derived.Test.YtmoimchdhgoeeaaDoorChecked
import Derived.SevenTiedAt
set_option linter.unusedVariables false
set_option linter.unusedSimpArgs false
namespace Go.Proofs.YtmoimchdhgoeeaaDoor
open Go.Am Go.Am.Rl Go.RowKit

set_option maxRecDepth 100000 in
theorem lexFloats_lifted (os : Os) (started : os.Started) (H : Type) (enc : TypeId × Value → H) :
    ReturnsInHanded {} Tryd.checked os 7 .any (fun w args => (Rows.lexFloatsSpec.pre enc Tryd.prog Tryd.f7 [] false w args ∧ laidMetH Tryd.prog laid2 w) ∧ sizedMet enc Tryd.prog Tryd.f7 (OpenSpec.ofChange Rows.lexFloatsSpec) false w args)
      (Rows.lexFloatsSpec.post enc Tryd.prog Tryd.f7 false true false false) := by
  refine law_true_laid (C := Tryd.checked) (laid := laid2) (ps := [fun acs => ∃ n, (Lit.int .u64 n).wf = true ∧ acs = [.int .u64 n], fun acs => ∃ n, (Lit.int .u64 n).wf = true ∧ acs = [.int .u64 n], fun acs => ∃ n, (Lit.int .i64 n).wf = true ∧ acs = [.int .i64 n]]) own laidOut started (by kernel_rfl) Tryd.func7
    (ChangeSpec.witness_shaped (enc := enc) (C := Tryd.checked) (os := os) (X := fun w _ => laidMetH Tryd.prog laid2 w) false (World.doorLaid Tryd.prog 400 os) #[.int .u64 0, .int .u64 0, .int .i64 0] 8 rfl (World.shaped_of_RefB (by kernel_rfl) (by kernel_rfl)) (by kernel_rfl) (by kernel_rfl) (by kernel_rfl) (door_met os _))
    (by kernel_rfl) (by kernel_rfl) Tryd.underlying4 rfl ?_ ?_ glob_laid ?_
  · intro ds hl
    have hp : Tryd.f7.params.toList = [37, 37, 3] := by rw [Tryd.params7]
    rw [hp] at hl
    match ds, hl with
    | [d0, d1, d2], _ => rfl
  · have hp : Tryd.f7.params.toList = [37, 37, 3] := by rw [Tryd.params7]
    rw [hp]
    exact ⟨Opens.int (k := .u64) Tryd.underlying37, Opens.int (k := .u64) Tryd.underlying37, Opens.int (k := .i64) Tryd.underlying3, trivial⟩
  · intro vs has
    have hp : Tryd.f7.params.toList = [37, 37, 3] := by rw [Tryd.params7]
    rw [hp] at has
    obtain ⟨acs, r, rfl, ⟨u, hu, rfl⟩, acs2, r2, rfl, ⟨v, hv, rfl⟩, acs3, r3, rfl, ⟨n, _, rfl⟩, rfl⟩ := has
    have ha : ∀ n, argOf Tryd.checked.prog 37 [.int .u64 n] = .int .u64 n := by
      intro n
      show argOf Tryd.prog 37 _ = _
      unfold argOf isAggT; rw [Tryd.underlying37]; rfl
    have hb : argOf Tryd.checked.prog 3 [.int .i64 n] = .int .i64 n := by
      show argOf Tryd.prog 3 _ = _
      unfold argOf isAggT; rw [Tryd.underlying3]; rfl
    rw [ha, ha, hb]
    have hw : ∀ x : Int, (Lit.int .u64 x).wf = true → ∃ y : Nat, x = y ∧ y < 18446744073709551616 := by
      intro x hx
      have h1 : IntKind.u64.min ≤ x ∧ x ≤ IntKind.u64.max := by simpa [Lit.wf] using hx
      have e1 : IntKind.u64.min = 0 := by decide
      have e2 : IntKind.u64.max = 18446744073709551615 := by decide
      rw [e1, e2] at h1
      exact ⟨x.toNat, by omega, by omega⟩
    obtain ⟨u', rfl, hu'⟩ := hw u hu
    obtain ⟨v', rfl, hv'⟩ := hw v hv
    exact (g7 hu' n).call

theorem lexFloats_holds : Rows.LexFloatsSaid :=
  OpenClaim.holds_of_wide 7 Tryd.f7 rfl rfl rfl rfl rfl rfl rfl ⟨rfl, rfl, rfl, rfl, rfl⟩ rfl rfl rfl rfl rfl (by kernel_rfl) Tryd.func7 (by kernel_rfl)
    (of_decide_eq_true (by kernel_rfl)) (by unfold Func.isWrapper; first | (rw [if_pos (by decide +kernel)]; kernel_rfl) | (rw [if_neg (by decide +kernel)]; exact ⟨rfl, rfl⟩))
    (fun os started H enc _ => lexFloats_lifted os started H enc)

theorem lexFloats_card : Rows.LexFloatsCardSaid :=
  Claim7.holds_tied_plain_at .later [] [.listed, .data] true (true, "f163c50bf504f3a4215a70944773d79dc79769d051773f70525d0651fa133124") false
    lexFloats_holds (fun _ h => by cases h) (by kernel_rfl) (fun _ h => by cases h) lexFloats_row_tie rfl ⟨rfl, rfl⟩ (by kernel_rfl) rfl
    (fun f fn hf hfn => by
      obtain rfl : f = 7 := Option.some.inj ((show Tryd.prog.funcNamed "exitwave/exitwavelaw5.LexFloats" = some 7 by kernel_rfl).symm.trans hf) |>.symm
      obtain rfl : fn = Tryd.f7 := (Option.some.inj (Tryd.func7.symm.trans hfn)).symm
      exact ⟨by kernel_rfl, fun j t ht => by
        rw [Tryd.params7] at ht
        have hm : t ∈ [37, 37, 3] := by simpa using Array.mem_of_getElem? ht
        have hall : ([37, 37, 3].all fun u => !Tryd.prog.wantsStandIn u) = true := by kernel_rfl
        exact (show Tryd.prog.wantsStandIn t = false by simpa using List.all_eq_true.1 hall t hm)⟩)
    (by kernel_rfl)
#print axioms lexFloats_card
end Go.Proofs.YtmoimchdhgoeeaaDoor
