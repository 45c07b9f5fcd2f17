/- Blocks laid and written; the law's own examples as known. -/
import Derived.Test.YtcmaphhbecjbjaaGreatDoorB0
set_option linter.unusedVariables false
set_option linter.unusedSimpArgs false
set_option maxRecDepth 20000
namespace Go.Am.Rl
open Go.Proofs

theorem upd {H : AHeap} {id : Nat} {b0 : ABlk} (g : H.get id = some b0) (b : ABlk) : ∃ H', H' = H.set id b ∧ H'.get id = some b ∧ H'.next = H.next ∧ ∀ j, j ≠ id → H'.get j = H.get j :=
  ⟨_, rfl, by rw [AHeap.get_set, if_pos rfl, if_pos (AHeap.get_lt g)], rfl, fun j hj => by rw [AHeap.get_set, if_neg hj]⟩
theorem psh (H : AHeap) (b : ABlk) : ∃ H', H' = H.push b ∧ H'.get H.next = some b ∧ H'.next = H.next + 1 ∧ ∀ j, j < H.next → H'.get j = H.get j :=
  ⟨_, rfl, by rw [AHeap.get_push, if_pos rfl], rfl, fun j hj => by rw [AHeap.get_push, if_neg (by omega)]⟩

def orc7 : Orc := fun f xs => match xs with
  | [] => if f = 6 then some (.bool true) else none
  | _ => none
theorem orc7_ok : orc7.Ok Tryz.prog := by
  intro f xs r h H
  unfold orc7 at h
  split at h
  · split at h
    · rename_i e; subst e; injection h with h; subst h
      obtain ⟨r, H1, ⟨rfl, rfl⟩, hd⟩ := g7 H
      exact hd
    · cases h
  · cases h
end Go.Am.Rl
