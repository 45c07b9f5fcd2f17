/- A call that never panics. -/
import Derived.Test.YtcmaphhbecjbjaaGreatDoorAmP
set_option linter.unusedVariables false
namespace Go.Am
theorem DCallX.call {P : Program} {f : FuncId} {args : List AVal} {H : AHeap} {Q : AVal → AHeap → Prop} (h : DCallX P f args H fun o H' => ∃ v, o = .ret v ∧ Q v H') : CallEv P f args H Q := by
  obtain ⟨o, H1, ⟨v, rfl, hq⟩, hc, hd⟩ := h
  intro w ro μ argv hg ha
  refine (hd w ro μ argv hg ha).mono fun e w' ⟨o, H', ro', μ', ⟨e1, e2⟩, ho, hg', hout⟩ => ?_
  subst e1; subst e2
  obtain ⟨v', h1, h2⟩ := ho
  exact ⟨v', v, _, ro', μ', h1, hq, h2, hg', hout⟩
end Go.Am
