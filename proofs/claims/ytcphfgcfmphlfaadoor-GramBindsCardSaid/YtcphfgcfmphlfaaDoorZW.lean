/- Parts: ZBi. -/
import Derived.Test.YtcphfgcfmphlfaaDoorZO
import Derived.Test.YtcphfgcfmphlfaaDoorLL
import Derived.Test.YtcphfgcfmphlfaaDoorCards
import Derived.Test.YtcphfgcfmphlfaaDoorTie
import Derived.Test.YtcphfgcfmphlfaaDoorChecked
import Derived.SevenTiedAt
set_option linter.unusedVariables false
set_option linter.unusedSimpArgs false
namespace Go.Proofs.YtcphfgcfmphlfaaDoor
open Go.Am Go.Am.Rl Go.RowKit
def PicksP (acs:List AVal):Prop:=∃ v l,acs=[v]∧PK v l
theorem ints_of:∀ rs:List (List AVal),(∀ r ∈ rs,∃ n:Int,r=[.int .i64 n])→∃ l:List Int,rs.flatten=l.map (fun n=>AVal.int .i64 n)∧rs.length=l.length
 | [],_=>⟨[],rfl,rfl⟩
 | r::rs,h=>by
  obtain ⟨a,rfl⟩:=h r (by simp)
  obtain ⟨l,h1,h2⟩:=ints_of rs fun r hr=>h r (by simp [hr])
  exact ⟨a::l,by simp [h1],by simp [h2]⟩
theorem opens_picks:Opens Tryd.prog 40 PicksP:=by
 refine Opens.mono (Opens.slice Tryd.underlying40 (Opens.int Tryd.underlying3)) fun acs h=> ?_
 rcases h with h | ⟨rs,hrs,_,_,h⟩
 ·exact ⟨.nils,[],h,.inl ⟨rfl,rfl⟩⟩
 ·obtain ⟨l,h1,h2⟩:=ints_of rs fun r hr=>by
   obtain ⟨⟨n,_,rfl⟩,_⟩:=hrs r hr
   exact ⟨n,rfl⟩
  exact ⟨_,l,h,.inr (by rw [h1,h2])⟩
set_option maxRecDepth 100000 in
theorem gramBinds_lifted (os:Os) (started:os.Started) (H:Type) (enc:TypeId × Value→H) :
  ReturnsInHanded {} Tryd.checked os 6 .any (fun w args=>(Rows.gramBindsSpec.pre enc Tryd.prog Tryd.f6 [] false w args∧laidMetH Tryd.prog laid2 w)∧sizedMet enc Tryd.prog Tryd.f6 (OpenSpec.ofChange Rows.gramBindsSpec) false w args)
   (Rows.gramBindsSpec.post enc Tryd.prog Tryd.f6 false true false false):=by
 refine law_true_laid (C:=Tryd.checked) (laid:=laid2) (ps:=[PicksP]) own laidOut started (by kernel_rfl) Tryd.func6
  (ChangeSpec.witness_shaped (enc:=enc) (C:=Tryd.checked) (os:=os) (X:=fun w _=>laidMetH Tryd.prog laid2 w) false (World.doorLaid Tryd.prog 400 os) #[.slice none 0 0] 8 rfl (World.shaped_of_RefB (by kernel_rfl) (by kernel_rfl)) (by kernel_rfl) (by kernel_rfl) (by kernel_rfl) (door_met os _))
  (by kernel_rfl) (by kernel_rfl) Tryd.underlying4 rfl ?_ ?_ glob_laid ?_
 ·intro ds hl
  have hp:Tryd.f6.params.toList=[40]:=by rw [Tryd.params6]
  rw [hp] at hl
  match ds,hl with
  | [d0],_=>rfl
 ·have hp:Tryd.f6.params.toList=[40]:=by rw [Tryd.params6]
  rw [hp]
  exact ⟨opens_picks,trivial⟩
 ·intro vs has
  have hp:Tryd.f6.params.toList=[40]:=by rw [Tryd.params6]
  rw [hp] at has
  obtain ⟨acs,r,rfl,⟨v,l,rfl,hv⟩,rfl⟩:=has
  have ha:argOf Tryd.checked.prog 40 [v]=v:=by
   show argOf Tryd.prog 40 _=_
   unfold argOf isAggT; rw [Tryd.underlying40]; rfl
  rw [ha]
  exact ((g6 AHeap.empty hv).mono fun o H' h=>⟨_,h,rfl⟩).call
theorem gramBinds_holds:Rows.GramBindsSaid:=
 OpenClaim.holds_of_wide 6 Tryd.f6 rfl rfl rfl rfl rfl rfl rfl ⟨rfl,rfl,rfl,rfl,rfl⟩ rfl rfl rfl rfl rfl (by kernel_rfl) Tryd.func6 (by kernel_rfl)
  (of_decide_eq_true (by kernel_rfl)) (by unfold Func.isWrapper; first | (rw [if_pos (by decide +kernel)]; kernel_rfl) | (rw [if_neg (by decide +kernel)]; exact ⟨rfl,rfl⟩))
  (fun os started H enc _=>gramBinds_lifted os started H enc)
theorem gramBinds_card:Rows.GramBindsCardSaid:=
 Claim7.holds_tied_plain_at .later [] [.listed, .data] true (true, "e1b8758ffaeba2c5332dec01d9443fb3cb3939cb2b8de47a3d455ad7c99184cd") true
  gramBinds_holds (fun _ h=>by cases h) (by kernel_rfl) (fun _ h=>by cases h) gramBinds_row_tie rfl ⟨rfl,rfl⟩ (by kernel_rfl) rfl
  (fun f fn hf hfn=>by
   obtain rfl : f = 6 := Option.some.inj ((show Tryd.prog.funcNamed "exitwave/exitwavelaw6.GramBinds" = some 6 by kernel_rfl).symm.trans hf) |>.symm
   obtain rfl:fn=Tryd.f6:=(Option.some.inj (Tryd.func6.symm.trans hfn)).symm
   exact ⟨by kernel_rfl,fun j t ht=>by
    rw [Tryd.params6] at ht
    have hm:t ∈ [40]:=by simpa using Array.mem_of_getElem? ht
    have hall:([40].all fun u=> !Tryd.prog.wantsStandIn u)=true:=by kernel_rfl
    exact (show Tryd.prog.wantsStandIn t=false by simpa using List.all_eq_true.1 hall t hm)⟩)
  (by kernel_rfl)
#print axioms gramBinds_card
end Go.Proofs.YtcphfgcfmphlfaaDoor
