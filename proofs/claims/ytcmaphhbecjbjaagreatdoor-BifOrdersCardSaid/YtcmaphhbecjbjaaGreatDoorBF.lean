/- What names no block is itself, frozen. -/
import Derived.Test.YtcmaphhbecjbjaaGreatDoorB8
set_option linter.unusedVariables false
set_option linter.unusedSimpArgs false
namespace Go.Am.Rl
open Go.Proofs

theorem freezeL_all {f : AVal → Option AVal} : ∀ {cs : List AVal}, (∀ a ∈ cs, f a = some a) → freezeL f cs = some cs
  | [], _ => rfl
  | c :: cs, h => by
    simp only [freezeL, h c (List.mem_cons_self ..), freezeL_all fun a ha => h a (List.mem_cons_of_mem _ ha)]
theorem pures_mem : ∀ {cs : List AVal}, AVal.pures cs = true → ∀ a ∈ cs, a.pure = true
  | c :: cs, h, a, ha => by
    simp only [AVal.pures, Bool.and_eq_true] at h
    rcases List.mem_cons.mp ha with rfl | ha
    · exact h.1
    · exact pures_mem h.2 a ha
/-- What names no block is itself. -/
theorem freeze_pure {sz : TypeId → Nat} {H : AHeap} : ∀ (n : Nat) (a : AVal), SizeOf.sizeOf a < n → a.pure = true → freeze sz H n a = some a
  | 0, a, h, _ => by omega
  | n + 1, a, h, hp => by
    have row : ∀ cs : List AVal, SizeOf.sizeOf cs < n → AVal.pures cs = true → freezeL (freeze sz H n) cs = some cs := fun cs hs hc => freezeL_all fun a ha => freeze_pure n a (by have := List.sizeOf_lt_of_mem ha; omega) (pures_mem hc a ha)
    cases a with
    | ptr i o => simp [AVal.pure] at hp
    | sl i o l c => simp [AVal.pure] at hp
    | map i => simp [AVal.pure] at hp
    | rop cs => simp only [freeze, row cs (by simp at h; omega) (by simpa [AVal.pure] using hp)]
    | ros cs l => simp only [freeze, row cs (by simp at h; omega) (by simpa [AVal.pure] using hp)]
    | agg cs => simp only [freeze, row cs (by simp at h; omega) (by simpa [AVal.pure] using hp)]
    | tup cs => simp only [freeze, row cs (by simp at h; omega) (by simpa [AVal.pure] using hp)]
    | fn f x y =>
      simp only [AVal.pure, Bool.and_eq_true] at hp
      simp at h
      simp only [freeze, row x (by omega) hp.1, row y (by omega) hp.2]
    | ifc t v => simp only [freeze, freeze_pure n v (by simp at h; omega) (by simpa [AVal.pure] using hp)]
    | _ => rfl

end Go.Am.Rl
