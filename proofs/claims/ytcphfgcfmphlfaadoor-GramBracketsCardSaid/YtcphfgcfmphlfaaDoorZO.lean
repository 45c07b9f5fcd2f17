/- Parts: Z0. -/
import Derived.Test.YtcphfgcfmphlfaaDoorRows
import Derived.Test.YtcphfgcfmphlfaaDoorAmQ
import Derived.Test.YtcphfgcfmphlfaaDoorProg
import Derived.ProofKit
import Derived.LaidMore
import Derived.OpenShut
import Derived.Stop.Joined
set_option linter.unusedVariables false
set_option linter.unusedSimpArgs false
namespace Go.Proofs.YtcphfgcfmphlfaaDoor
open Go.Am Go.RowKit Go.ChangeShapes Go.WideShapes Go.ChangeAt Go.WideMaps Go.WideElems
theorem own:ownKnob Tryd.prog.godebug=none:=by kernel_rfl
theorem laidOut:laidOutB Tryd.prog=true:=by kernel_rfl
theorem gSpace : Tryd.prog.globalNamed "strings.asciiSpace" = some 1 := by kernel_rfl
theorem gWhite : Tryd.prog.globalNamed "unicode.White_Space" = some 2 := by kernel_rfl
theorem tSpace:(Tryd.prog.globals[1]?).map (·.type)=some 87:=by kernel_rfl
theorem tWhite:(Tryd.prog.globals[2]?).map (·.type)=some 99:=by kernel_rfl
abbrev laid2 : List (String × DataW Unit) := [("unicode.White_Space", Rows.laid_unicode_White_Space), ("strings.asciiSpace", Rows.laid_strings_asciiSpace)]
theorem door_met (os:Os) (args:Array Value):laidMetH Tryd.prog laid2 ((World.doorLaid Tryd.prog 400 os).forCall (fun _ _=>0) ⟨#[],args,[]⟩).memory:=
 laidMetH_of_parts3 (fuel:=8) (laidMet_of_run' 8 (by kernel_rfl) (by kernel_rfl)) (by kernel_rfl) (by kernel_rfl)
theorem dSpace:dcells Tryd.prog 87 (Rows.laid_strings_asciiSpace:DataW Unit)=laidAt 1:=by kernel_rfl
theorem dWhite:dcells Tryd.prog 99 (Rows.laid_unicode_White_Space:DataW Unit)=laidAt 2:=by kernel_rfl
theorem glob_laid (W:World) (h:laidMetH Tryd.prog laid2 W):Glob Tryd.prog W (fun b=>b < W.heap.size):=by
 rw [MakeChecks.laidMetH_plain _ _ _ (by kernel_rfl)] at h
 obtain ⟨ps,⟨g0,t0,cs0,f0,p0,q0,hg0,ht0,hv0,hd0,⟨g1,t1,cs1,f1,p1,q1,hg1,ht1,hv1,hd1,_,_⟩,_⟩,_,_⟩:=h
 obtain rfl:=Option.some.inj (gWhite.symm.trans hg0)
 obtain rfl:=Option.some.inj (gSpace.symm.trans hg1)
 obtain rfl:=Option.some.inj (tWhite.symm.trans ht0)
 obtain rfl:=Option.some.inj (tSpace.symm.trans ht1)
 intro g cs hl
 have hne:cs≠[]:=by
  intro e; subst e
  unfold laidAt at hl
  split at hl
  ·exact absurd hl (by intro e; cases e)
  ·split at hl
   ·exact absurd hl (by intro e; cases e)
   ·cases hl
 have hg:g=1∨g=2:=by
  unfold laidAt at hl
  split at hl
  ·rename_i h; exact .inl h
  ·split at hl
   ·rename_i h; exact .inr h
   ·cases hl
 rcases hg with rfl | rfl
 ·exact glob_of (World.var?_cell hg1 hv1) hd1 (dSpace.trans hl) hne
 ·exact glob_of (World.var?_cell hg0 hv0) hd0 (dWhite.trans hl) hne
end Go.Proofs.YtcphfgcfmphlfaaDoor
