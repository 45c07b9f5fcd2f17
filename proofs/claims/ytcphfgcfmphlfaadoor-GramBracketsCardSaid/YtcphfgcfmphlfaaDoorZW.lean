/- Parts: ZBr. -/
import Derived.Test.YtcphfgcfmphlfaaDoorZO
import Derived.Test.YtcphfgcfmphlfaaDoorLL
import Derived.Test.YtcphfgcfmphlfaaDoorCards
import Derived.Test.YtcphfgcfmphlfaaDoorTie
import Derived.Test.YtcphfgcfmphlfaaDoorChecked
import Derived.SevenTiedAt
set_option linter.unusedVariables false
set_option linter.unusedSimpArgs false
namespace Go.Proofs.YtcphfgcfmphlfaaDoor
open Go.Am Go.Am.Rl Go.RowKit
set_option maxRecDepth 100000 in
theorem gramBrackets_lifted (os:Os) (started:os.Started) (H:Type) (enc:TypeId × Value→H) :
  ReturnsInHanded {} Tryd.checked os 4 .any (fun w args=>(Rows.gramBracketsSpec.pre enc Tryd.prog Tryd.f4 [] false w args∧laidMetH Tryd.prog laid2 w)∧sizedMet enc Tryd.prog Tryd.f4 (OpenSpec.ofChange Rows.gramBracketsSpec) false w args)
   (Rows.gramBracketsSpec.post enc Tryd.prog Tryd.f4 false true false false):=by
 refine law_true_laid (C:=Tryd.checked) (laid:=laid2) (ps:=[fun acs=>∃ s:ByteArray,s.size≤reachBytes∧acs=[.str s]]) own laidOut started (by kernel_rfl) Tryd.func4
  (ChangeSpec.witness_shaped (enc:=enc) (C:=Tryd.checked) (os:=os) (X:=fun w _=>laidMetH Tryd.prog laid2 w) false (World.doorLaid Tryd.prog 400 os) #[.string ByteArray.empty] 8 rfl (World.shaped_of_RefB (by kernel_rfl) (by kernel_rfl)) (by kernel_rfl) (by kernel_rfl) (by kernel_rfl) (door_met os _))
  (by kernel_rfl) (by kernel_rfl) Tryd.underlying4 rfl ?_ ?_ glob_laid ?_
 ·intro ds hl
  have hp:Tryd.f4.params.toList=[9]:=by rw [Tryd.params4]
  rw [hp] at hl
  match ds,hl with
  | [d0],_=>rfl
 ·have hp:Tryd.f4.params.toList=[9]:=by rw [Tryd.params4]
  rw [hp]
  exact ⟨Opens.str Tryd.underlying9,trivial⟩
 ·intro vs has
  have hp:Tryd.f4.params.toList=[9]:=by rw [Tryd.params4]
  rw [hp] at has
  obtain ⟨acs,r,rfl,⟨s,_,rfl⟩,rfl⟩:=has
  have ha:∀ s,argOf Tryd.checked.prog 9 [.str s] = .str s:=by
   intro s
   show argOf Tryd.prog 9 _=_
   unfold argOf isAggT; rw [Tryd.underlying9]; rfl
  rw [ha]
  exact ((g4 AHeap.empty s).mono fun o H' h=>⟨_,h,rfl⟩).call
theorem gramBrackets_holds:Rows.GramBracketsSaid:=
 OpenClaim.holds_of_wide 4 Tryd.f4 rfl rfl rfl rfl rfl rfl rfl ⟨rfl,rfl,rfl,rfl,rfl⟩ rfl rfl rfl rfl rfl (by kernel_rfl) Tryd.func4 (by kernel_rfl)
  (of_decide_eq_true (by kernel_rfl)) (by unfold Func.isWrapper; first | (rw [if_pos (by decide +kernel)]; kernel_rfl) | (rw [if_neg (by decide +kernel)]; exact ⟨rfl,rfl⟩))
  (fun os started H enc _=>gramBrackets_lifted os started H enc)
theorem gramBrackets_card:Rows.GramBracketsCardSaid:=
 Claim7.holds_tied_plain_at .later [] [.listed, .data] true (true, "e1b8758ffaeba2c5332dec01d9443fb3cb3939cb2b8de47a3d455ad7c99184cd") true
  gramBrackets_holds (fun _ h=>by cases h) (by kernel_rfl) (fun _ h=>by cases h) gramBrackets_row_tie rfl ⟨rfl,rfl⟩ (by kernel_rfl) rfl
  (fun f fn hf hfn=>by
   obtain rfl : f = 4 := Option.some.inj ((show Tryd.prog.funcNamed "exitwave/exitwavelaw6.GramBrackets" = some 4 by kernel_rfl).symm.trans hf) |>.symm
   obtain rfl:fn=Tryd.f4:=(Option.some.inj (Tryd.func4.symm.trans hfn)).symm
   exact ⟨by kernel_rfl,fun j t ht=>by
    rw [Tryd.params4] at ht
    have hm:t ∈ [9]:=by simpa using Array.mem_of_getElem? ht
    have hall:([9].all fun u=> !Tryd.prog.wantsStandIn u)=true:=by kernel_rfl
    exact (show Tryd.prog.wantsStandIn t=false by simpa using List.all_eq_true.1 hall t hm)⟩)
  (by kernel_rfl)
#print axioms gramBrackets_card
end Go.Proofs.YtcphfgcfmphlfaaDoor
