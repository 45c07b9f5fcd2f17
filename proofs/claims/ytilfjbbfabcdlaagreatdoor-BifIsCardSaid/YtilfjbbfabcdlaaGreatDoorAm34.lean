/- The closing of a law that answers true, where its row lists what variables hold. -/
import Derived.Test.YtilfjbbfabcdlaaGreatDoorAm33
import Derived.LaidMore
import Derived.Stop.Joined
set_option linter.unusedVariables false
set_option linter.unusedSimpArgs false
namespace Go.Am
open Go.RowKit Go.ChangeShapes

theorem law_true_laid {H : Type} {enc : TypeId × Value → H} {C : Checked} {os : Os} {f : FuncId} {fn : Func} {s : ChangeSpec} {conds : List PathCond} {rt : TypeId} {ps : List (List AVal → Prop)} {laid : List (String × DataW Unit)}
    (own : ownKnob C.prog.godebug = none) (laidO : laidOutB C.prog = true) (started : os.Started) (noInit : C.prog.inits.idxOf? f = none) (hfn : C.prog.funcs[f]? = some fn)
    (witness : ∃ (w : World) (tape : Tape) (i : Input), w.os = os ∧ (w.forCall tape i).Shaped C.prog ∧ i.vars = [] ∧ Input.okWide C.prog (w.forCall tape i) .any w.heap.size f i ∧
      ((s.pre enc C.prog fn conds false (w.forCall tape i).memory i.args ∧ laidMetH C.prog laid (w.forCall tape i).memory) ∧ sizedMet enc C.prog fn (OpenSpec.ofChange s) false (w.forCall tape i).memory i.args) ∧ ({} : Assume).holds C.prog (lone (Frame.enter C.prog f i.args .normal) [] (w.forCall tape i)))
    (hread : fn.params.toList.all (fun t => C.prog.readableRec t && decide (t < C.prog.types.size)) = true) (hres : fn.resultTypes.toList = [rt]) (hrt : C.prog.underlying rt = some .bool) (hvars : s.vars = [])
    (hs : ∀ ds : List (DataW H), ds.length = fn.params.toList.length → s.fn H ds = { results := [.lit (.bool true)], args := ds })
    (hop : OpensAll C.prog fn.params.toList ps) (hglob : ∀ W : World, laidMetH C.prog laid W → Glob C.prog W (fun b => b < W.heap.size))
    (hlaw : ∀ as, ArgsOf C.prog fn.params.toList ps as → CallEv C.prog f as AHeap.empty fun r _ => r = .bool true) :
    ReturnsInHanded {} C os f .any (fun w args => (s.pre enc C.prog fn conds false w args ∧ laidMetH C.prog laid w) ∧ sizedMet enc C.prog fn (OpenSpec.ofChange s) false w args) (s.post enc C.prog fn false true false false) := by
  refine returnsInHanded_of_change_and (X := fun w _ => laidMetH C.prog laid w) (fun _ _ _ hh h => h.of_heap hh) own started noInit hfn witness ?_
  intro W base args ds gs before hval hW hcnd hsz hL _
  have hW' := hW
  obtain ⟨p, q, hA, hV, rfl, hfz, hnd⟩ := hW
  rw [hvars] at hV
  obtain ⟨rfl, rfl⟩ := trodVars_none hV
  obtain ⟨as, hvs, has⟩ := opens_args fn.params.toList ps args.toList ds p hop hA (fun j t v h1 h2 => hval j t v (by simpa using h1) (by simpa using h2)) hsz
  refine (hlaw as has W (fun b => b < W.heap.size) (fun _ => none) args (good_empty _ _ (hglob W hL)) hvs).mono fun e W' ⟨v', r, H', ro', μ', he, hr, hv, _, ho⟩ => ?_
  subst he; subst hr
  simp only [VR] at hv; subst hv
  have hb := below_of_out ho
  have hfn1 : s.fn H (ds ++ []) = { results := [.lit (.bool true)], args := ds } := by rw [List.append_nil]; exact hs ds (trodAll_length _ _ _ _ hA)
  have hsize : fn.resultTypes.size = 1 := by rw [← Array.length_toList, hres]; rfl
  refine ⟨_, rfl, ds, [], _, [], p, [], hW', ?_, ?_, ?_, hb.frame _, fun h => by cases h⟩
  · rw [hfn1, hres, hsize]
    exact trodAll_mk1 (shut_bool hrt _)
  · rw [hfn1]
    exact trodAll_carry laidO hb _ _ _ _ hread hA
  · rw [hfn1, hvars]
    exact rfl
end Go.Am
