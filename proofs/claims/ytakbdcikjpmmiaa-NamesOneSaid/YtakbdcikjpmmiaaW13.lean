import Derived.Test.YtakbdcikjpmmiaaW12
set_option linter.unusedVariables false
set_option linter.unusedSimpArgs false
namespace Go.Am.Rn
open Go.Proofs

theorem all_next (H : AHeap) (L : List (ByteArray × Int)) : H.next ≤ (allHeap H L).next ∧ ∀ j, j < H.next → (allHeap H L).get j = H.get j := by
  unfold allHeap
  split
  · exact ⟨by rw [skip_next]; omega, fun j hj => skip_get H j 1⟩
  · refine ⟨by rw [push_next, skip_next]; omega, fun j hj => ?_⟩
    rw [AHeap.get_push, skip_next, if_neg (by omega), skip_get]
theorem all_len (H H' : AHeap) (L : List (ByteArray × Int)) : alenT H' 1 (allVal H L) = some L.length := by
  unfold allVal
  split
  · rename_i h; subst h; rfl
  · rfl
theorem all_block {H : AHeap} {L : List (ByteArray × Int)} (h : L ≠ []) : (allHeap H L).get (H.next + 2 * L.length) = some (.cells 9 (L.map fun p => .str p.1)) := by
  unfold allHeap
  rw [if_neg h, AHeap.get_push, skip_next, if_pos rfl]
theorem all_call {H : AHeap} {n r m1 m2 : Nat} {A : List Rec} {L : List (ByteArray × Int)} {c1 c2 : Nat} (hb : Both H n r m1 m2 A L c1 c2) : DCall Try.prog 12 [.ptr n 0] H fun a H' => a = allVal H L ∧ H' = allHeap H L := by
  have hll : A.length = L.length := by have := hb.same.perm.length_eq; simpa using this
  obtain ⟨x, y, hr⟩ := hb.ref
  exact ⟨_, _, ⟨rfl, rfl⟩, g12 hb.nam hb.same (by rw [hll]; exact hr.len)⟩
/-- The row's element, and that it can be written. -/
theorem all_at {H H' : AHeap} {L : List (ByteArray × Int)} {cs : List AVal} (hc : H'.get (H.next + 2 * L.length) = some (.cells 9 cs)) (hl : cs.length = L.length) {i : Nat} (hi : i < L.length) :
    aiaddr H' 1 (allVal H L) (.int .i64 (i : Int)) = some (.ptr (H.next + 2 * L.length) i) ∧ ∀ v, cs[i]? = some v → aload H' none (.ptr (H.next + 2 * L.length) i) = some v := by
  have hne : L ≠ [] := by intro e; subst e; simp at hi
  refine ⟨?_, fun v hv => load_cell hc hv⟩
  unfold allVal
  rw [if_neg hne]
  simp only [aiaddr]
  rw [if_pos (by omega)]; simp
end Go.Am.Rn
