/- What is proved: the tied card of 'exitwavelaw9.BifOps': it answers true for each input (BifOpsCardSaid). The listed variables hold what the program's text lays. -/
import Derived.Test.YtmiomdldmoejgaaGreatDoorXA
import Derived.Test.YtmiomdldmoejgaaGreatDoorXH
import Derived.Test.YtmiomdldmoejgaaGreatDoorCards
import Derived.Test.YtmiomdldmoejgaaGreatDoorTie
import Derived.Test.YtmiomdldmoejgaaGreatDoorChecked
import Derived.SevenTiedAt
set_option linter.unusedVariables false
set_option linter.unusedSimpArgs false
namespace Go.Proofs.YtmiomdldmoejgaaGreatDoor
open Go.Am Go.Am.Rl Go.RowKit
set_option maxRecDepth 100000 in
theorem bifOps_lifted (os:Os) (started:os.Started) (H:Type) (enc:TypeId × Value→H) :
  ReturnsInHanded {} Tryz.checked os 3 .any (fun w args=>(Rows.bifOpsSpec.pre enc Tryz.prog Tryz.f3 [] false w args∧laidMetH Tryz.prog laid2 w)∧sizedMet enc Tryz.prog Tryz.f3 (OpenSpec.ofChange Rows.bifOpsSpec) false w args)
   (Rows.bifOpsSpec.post enc Tryz.prog Tryz.f3 false true false false):=by
 refine law_true_laid (C:=Tryz.checked) (laid:=laid2) (ps:=[fun acs=>∃ s:ByteArray,s.size≤reachBytes∧acs=[.str s],fun acs=>∃ nl l,(TM.of nl l).ok∧acs=[(TM.of nl l).row]]) own laidOut started (by kernel_rfl) Tryz.func3
  (ChangeSpec.witness_shaped (enc:=enc) (C:=Tryz.checked) (os:=os) (X:=fun w _=>laidMetH Tryz.prog laid2 w) false (World.doorLaid Tryz.prog 400 os) #[.string ByteArray.empty,.slice none 0 0] 8 rfl (World.shaped_of_RefB (by kernel_rfl) (by kernel_rfl)) (by kernel_rfl) (by kernel_rfl) (by kernel_rfl) (door_met os _))
  (by kernel_rfl) (by kernel_rfl) Tryz.underlying4 rfl ?_ ?_ glob_laid ?_
 ·intro ds hl
  have hp:Tryz.f3.params.toList=[9,22]:=by rw [Tryz.params3]
  rw [hp] at hl
  match ds,hl with
  | [d0,d1],_=>rfl
 ·have hp:Tryz.f3.params.toList=[9,22]:=by rw [Tryz.params3]
  rw [hp]
  exact ⟨Opens.str Tryz.underlying9,opensTerms,trivial⟩
 ·intro vs has
  have hp:Tryz.f3.params.toList=[9,22]:=by rw [Tryz.params3]
  rw [hp] at has
  obtain ⟨acs,r,rfl,⟨s,_,rfl⟩,acs1,r1,rfl,⟨nl,l,ok,rfl⟩,rfl⟩:=has
  have ha:∀ s,argOf Tryz.checked.prog 9 [.str s] = .str s:=by
   intro s
   show argOf Tryz.prog 9 _=_
   unfold argOf isAggT; rw [Tryz.underlying9]; rfl
  have hb:argOf Tryz.checked.prog 22 [(TM.of nl l).row]=(TM.of nl l).row:=by
   show argOf Tryz.prog 22 _=_
   unfold argOf isAggT; rw [Tryz.underlying22]; rfl
  rw [ha,hb]
  exact (law3 ok).call
theorem bifOps_holds:Rows.BifOpsSaid:=
 OpenClaim.holds_of_wide 3 Tryz.f3 rfl rfl rfl rfl rfl rfl rfl ⟨rfl,rfl,rfl,rfl,rfl⟩ rfl rfl rfl rfl rfl (by kernel_rfl) Tryz.func3 (by kernel_rfl)
  (of_decide_eq_true (by kernel_rfl)) (by unfold Func.isWrapper; first | (rw [if_pos (by decide +kernel)]; kernel_rfl) | (rw [if_neg (by decide +kernel)]; exact ⟨rfl,rfl⟩))
  (fun os started H enc _=>bifOps_lifted os started H enc)
theorem bifOps_card:Rows.BifOpsCardSaid:=
 Claim7.holds_tied_plain_at .later [] [.data, .data, .data, .sentinel, .sentinel] true (true, "4f604b4caff798b756d11ad4479be2e144476f0e90d089543eef2ed5bd26f6cd") true
  bifOps_holds (fun _ h=>by cases h) (by kernel_rfl) (fun _ h=>by cases h) bifOps_row_tie rfl ⟨rfl,rfl⟩ (by kernel_rfl) rfl
  (fun f fn hf hfn=>by
   obtain rfl : f = 3 := Option.some.inj ((show Tryz.prog.funcNamed "exitwave/exitwavelaw9.BifOps" = some 3 by kernel_rfl).symm.trans hf) |>.symm
   obtain rfl:fn=Tryz.f3:=(Option.some.inj (Tryz.func3.symm.trans hfn)).symm
   exact ⟨by kernel_rfl,fun j t ht=>by
    rw [Tryz.params3] at ht
    have hm:t ∈ [9,22]:=by simpa using Array.mem_of_getElem? ht
    have hall:([9,22].all fun u=> !Tryz.prog.wantsStandIn u)=true:=by kernel_rfl
    exact (show Tryz.prog.wantsStandIn t=false by simpa using List.all_eq_true.1 hall t hm)⟩)
  (by kernel_rfl)
#print axioms bifOps_card
end Go.Proofs.YtmiomdldmoejgaaGreatDoor
