/- Parts: ZTw. -/
import Derived.Test.YtcphfgcfmphlfaaDoorZO
import Derived.Test.YtcphfgcfmphlfaaDoorLL
import Derived.Test.YtcphfgcfmphlfaaDoorCards
import Derived.Test.YtcphfgcfmphlfaaDoorTie
import Derived.Test.YtcphfgcfmphlfaaDoorChecked
import Derived.SevenTiedAt
set_option linter.unusedVariables false
set_option linter.unusedSimpArgs false
namespace Go.Proofs.YtcphfgcfmphlfaaDoor
open Go.Am Go.Am.Rl Go.RowKit
set_option maxRecDepth 100000 in
theorem gramTwice_lifted (os:Os) (started:os.Started) (H:Type) (enc:TypeId × Value→H) :
  ReturnsInHanded {} Tryd.checked os 7 .any (fun w args=>(Rows.gramTwiceSpec.pre enc Tryd.prog Tryd.f7 [] false w args∧laidMetH Tryd.prog laid2 w)∧sizedMet enc Tryd.prog Tryd.f7 (OpenSpec.ofChange Rows.gramTwiceSpec) false w args)
   (Rows.gramTwiceSpec.post enc Tryd.prog Tryd.f7 false true false false):=by
 refine law_true_laid (C:=Tryd.checked) (laid:=laid2) (ps:=[fun acs=>∃ n,(Lit.int .i64 n).wf=true∧acs=[.int .i64 n],fun acs=>∃ n,(Lit.int .i64 n).wf=true∧acs=[.int .i64 n]]) own laidOut started (by kernel_rfl) Tryd.func7
  (ChangeSpec.witness_shaped (enc:=enc) (C:=Tryd.checked) (os:=os) (X:=fun w _=>laidMetH Tryd.prog laid2 w) false (World.doorLaid Tryd.prog 400 os) #[.int .i64 0,.int .i64 0] 8 rfl (World.shaped_of_RefB (by kernel_rfl) (by kernel_rfl)) (by kernel_rfl) (by kernel_rfl) (by kernel_rfl) (door_met os _))
  (by kernel_rfl) (by kernel_rfl) Tryd.underlying4 rfl ?_ ?_ glob_laid ?_
 ·intro ds hl
  have hp:Tryd.f7.params.toList=[3,3]:=by rw [Tryd.params7]
  rw [hp] at hl
  match ds,hl with
  | [d0,d1],_=>rfl
 ·have hp:Tryd.f7.params.toList=[3,3]:=by rw [Tryd.params7]
  rw [hp]
  exact ⟨Opens.int (k:=.i64) Tryd.underlying3,Opens.int (k:=.i64) Tryd.underlying3,trivial⟩
 ·intro vs has
  have hp:Tryd.f7.params.toList=[3,3]:=by rw [Tryd.params7]
  rw [hp] at has
  obtain ⟨acs,r,rfl,⟨a,_,rfl⟩,acs2,r2,rfl,⟨b,_,rfl⟩,rfl⟩:=has
  have ha:∀ n,argOf Tryd.checked.prog 3 [.int .i64 n] = .int .i64 n:=by
   intro n
   show argOf Tryd.prog 3 _=_
   unfold argOf isAggT; rw [Tryd.underlying3]; rfl
  rw [ha,ha]
  exact ((g7 AHeap.empty a b).mono fun o H' h=>⟨_,h,rfl⟩).call
theorem gramTwice_holds:Rows.GramTwiceSaid:=
 OpenClaim.holds_of_wide 7 Tryd.f7 rfl rfl rfl rfl rfl rfl rfl ⟨rfl,rfl,rfl,rfl,rfl⟩ rfl rfl rfl rfl rfl (by kernel_rfl) Tryd.func7 (by kernel_rfl)
  (of_decide_eq_true (by kernel_rfl)) (by unfold Func.isWrapper; first | (rw [if_pos (by decide +kernel)]; kernel_rfl) | (rw [if_neg (by decide +kernel)]; exact ⟨rfl,rfl⟩))
  (fun os started H enc _=>gramTwice_lifted os started H enc)
theorem gramTwice_card:Rows.GramTwiceCardSaid:=
 Claim7.holds_tied_plain_at .later [] [.listed, .data] true (true, "e1b8758ffaeba2c5332dec01d9443fb3cb3939cb2b8de47a3d455ad7c99184cd") true
  gramTwice_holds (fun _ h=>by cases h) (by kernel_rfl) (fun _ h=>by cases h) gramTwice_row_tie rfl ⟨rfl,rfl⟩ (by kernel_rfl) rfl
  (fun f fn hf hfn=>by
   obtain rfl : f = 7 := Option.some.inj ((show Tryd.prog.funcNamed "exitwave/exitwavelaw6.GramTwice" = some 7 by kernel_rfl).symm.trans hf) |>.symm
   obtain rfl:fn=Tryd.f7:=(Option.some.inj (Tryd.func7.symm.trans hfn)).symm
   exact ⟨by kernel_rfl,fun j t ht=>by
    rw [Tryd.params7] at ht
    have hm:t ∈ [3,3]:=by simpa using Array.mem_of_getElem? ht
    have hall:([3,3].all fun u=> !Tryd.prog.wantsStandIn u)=true:=by kernel_rfl
    exact (show Tryd.prog.wantsStandIn t=false by simpa using List.all_eq_true.1 hall t hm)⟩)
  (by kernel_rfl)
#print axioms gramTwice_card
end Go.Proofs.YtcphfgcfmphlfaaDoor
