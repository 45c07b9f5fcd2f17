/- What is proved: the tied card of 'exitwavelaw5.LexTerms': it answers true for each input (LexTermsCardSaid). The listed variables hold what the program's text lays. -/
import Derived.Test.YtmoimchdhgoeeaaDoorXA
import Derived.Test.YtmoimchdhgoeeaaDoorXE
import Derived.Test.YtmoimchdhgoeeaaDoorCards
import Derived.Test.YtmoimchdhgoeeaaDoorTie
import Derived.Test.YtmoimchdhgoeeaaDoorChecked
import Derived.SevenTiedAt
set_option linter.unusedVariables false
set_option linter.unusedSimpArgs false
namespace Go.Proofs.YtmoimchdhgoeeaaDoor
open Go.Am Go.Am.Rl Go.RowKit
set_option maxRecDepth 100000 in
theorem lexTerms_lifted (os:Os) (started:os.Started) (H:Type) (enc:TypeId × Value→H) :
  ReturnsInHanded {} Tryd.checked os 8 .any (fun w args=>(Rows.lexTermsSpec.pre enc Tryd.prog Tryd.f8 [] false w args∧laidMetH Tryd.prog laid2 w)∧sizedMet enc Tryd.prog Tryd.f8 (OpenSpec.ofChange Rows.lexTermsSpec) false w args)
   (Rows.lexTermsSpec.post enc Tryd.prog Tryd.f8 false true false false):=by
 refine law_true_laid (C:=Tryd.checked) (laid:=laid2) (ps:=[fun acs=>∃ x:TM,x.ok∧acs=x.cells]) own laidOut started (by kernel_rfl) Tryd.func8
  (ChangeSpec.witness_shaped (enc:=enc) (C:=Tryd.checked) (os:=os) (X:=fun w _=>laidMetH Tryd.prog laid2 w) false (World.doorLaid Tryd.prog 400 os) #[.agg #[.int .i64 0,.int .i64 0,.float .f64 0,.string ByteArray.empty,.slice none 0 0]] 8 rfl (World.shaped_of_RefB (by kernel_rfl) (by kernel_rfl)) (by kernel_rfl) (by kernel_rfl) (by kernel_rfl) (door_met os _))
  (by kernel_rfl) (by kernel_rfl) Tryd.underlying4 rfl ?_ ?_ glob_laid ?_
 ·intro ds hl
  have hp:Tryd.f8.params.toList=[44]:=by rw [Tryd.params8]
  rw [hp] at hl
  match ds,hl with
  | [d0],_=>rfl
 ·have hp:Tryd.f8.params.toList=[44]:=by rw [Tryd.params8]
  rw [hp]
  exact ⟨opensTerm,trivial⟩
 ·intro vs has
  have hp:Tryd.f8.params.toList=[44]:=by rw [Tryd.params8]
  rw [hp] at has
  obtain ⟨acs,r,rfl,⟨x,hx,rfl⟩,rfl⟩:=has
  have ha:argOf Tryd.checked.prog 44 x.cells=x.agg:=by
   show argOf Tryd.prog 44 _=_
   unfold argOf isAggT; rw [Tryd.underlying44]
   exact TM.agg_eq x
  rw [ha]
  exact (g8 x hx _).call
theorem lexTerms_holds:Rows.LexTermsSaid:=
 OpenClaim.holds_of_wide 8 Tryd.f8 rfl rfl rfl rfl rfl rfl rfl ⟨rfl,rfl,rfl,rfl,rfl⟩ rfl rfl rfl rfl rfl (by kernel_rfl) Tryd.func8 (by kernel_rfl)
  (of_decide_eq_true (by kernel_rfl)) (by unfold Func.isWrapper; first | (rw [if_pos (by decide +kernel)]; kernel_rfl) | (rw [if_neg (by decide +kernel)]; exact ⟨rfl,rfl⟩))
  (fun os started H enc _=>lexTerms_lifted os started H enc)
theorem lexTerms_card:Rows.LexTermsCardSaid:=
 Claim7.holds_tied_plain_at .later [] [.listed, .data] true (true, "f163c50bf504f3a4215a70944773d79dc79769d051773f70525d0651fa133124") false
  lexTerms_holds (fun _ h=>by cases h) (by kernel_rfl) (fun _ h=>by cases h) lexTerms_row_tie rfl ⟨rfl,rfl⟩ (by kernel_rfl) rfl
  (fun f fn hf hfn=>by
   obtain rfl : f = 8 := Option.some.inj ((show Tryd.prog.funcNamed "exitwave/exitwavelaw5.LexTerms" = some 8 by kernel_rfl).symm.trans hf) |>.symm
   obtain rfl:fn=Tryd.f8:=(Option.some.inj (Tryd.func8.symm.trans hfn)).symm
   exact ⟨by kernel_rfl,fun j t ht=>by
    rw [Tryd.params8] at ht
    have hm:t ∈ [44]:=by simpa using Array.mem_of_getElem? ht
    have hall:([44].all fun u=> !Tryd.prog.wantsStandIn u)=true:=by kernel_rfl
    exact (show Tryd.prog.wantsStandIn t=false by simpa using List.all_eq_true.1 hall t hm)⟩)
  (by kernel_rfl)
#print axioms lexTerms_card
end Go.Proofs.YtmoimchdhgoeeaaDoor
