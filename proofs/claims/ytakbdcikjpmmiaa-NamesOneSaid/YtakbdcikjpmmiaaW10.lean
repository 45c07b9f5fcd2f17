import Derived.Test.YtakbdcikjpmmiaaW9
import Derived.Test.YtakbdcikjpmmiaaLaid
import Derived.Shelf.Sort.Plain
set_option linter.unusedVariables false
set_option linter.unusedSimpArgs false
namespace Go.Am
open Go.Proofs Go.Sort Go.RowKit

/-- Blocks more, that no name stands for. -/
theorem Good.grow {P : Program} {w : World} {ro : Nat → Prop} {μ : Mu} {H : AHeap} (hg : Good P w ro μ H) (os : Array Obj) : Good P (Go.Sort.grow w os) ro μ H ∧ Out w ro μ H (Go.Sort.grow w os) ro μ H := by
  have hsame : ∀ b : Nat, b < w.heap.size → (Go.Sort.grow w os).heap[b]? = w.heap[b]? := fun b hb => by
    simp only [Go.Sort.grow]; rw [Array.getElem?_append_left hb]
  have hk : Keep w (Go.Sort.grow w os) (Lv μ H) := by
    refine ⟨by simp [Go.Sort.grow], fun b hb _ => hsame b hb, fun b c e fr hc => ⟨c, fr, ?_, rfl⟩, rfl, rfl, rfl⟩
    rw [hsame b (by
      rcases Nat.lt_or_ge b w.heap.size with h | h
      · exact h
      · rw [Array.getElem?_eq_none h] at hc; cases hc)]
    exact hc
  refine hg.step hk (Nat.le_refl _) (fun _ _ => rfl) hg.new (fun id b base hm => Nat.lt_of_lt_of_le (hg.lt id b base hm) hk.size) (fun id kb b base h1 h2 => .inl ⟨h1, h2, hsame b (hg.lt id b base h2)⟩) hg.inj

theorem Good.ahead {P : Program} {w : World} {ro : Nat → Prop} {μ : Mu} {H : AHeap} (hg : Good P w ro μ H) (n : Nat) : Good P (Go.Sort.ahead w n) ro μ H ∧ Out w ro μ H (Go.Sort.ahead w n) ro μ H :=
  ⟨hg.drawn _, Out.drawn _ _ _ _ _⟩

theorem encStr_toList (s : ByteArray) : encStr s.toList = .string s := by
  rw [ByteArray.toList_eq]

/-- The sort, on a block that is a row's alone. -/
theorem sort_call {P : Program} {ρ : Go.Shelf.Ren} (Ly : Go.Proofs.Lays.n190 P ρ) {H : AHeap} {id : Nat} {e : TypeId} {ss : List ByteArray} {cap : Option Nat} (hid : H.get id = some (.cells e (ss.map .str))) (hl : ss.length < 4611686018427387904) :
    CallEv P (ρ.f 190) [.sl id 0 ss.length cap] H fun r H' => r = .tup [] ∧ ∃ zs : List ByteArray, zs.map (·.toList) = (ss.map (·.toList)).mergeSort (fun x y => decide (x ≤ y)) ∧ H' = H.set id (.cells e (zs.map .str)) := by
  intro w ro μ argv hg ha
  obtain ⟨u, rest, h1, ⟨b, base, c, e', fr, k, hm, hb, rfl, hk, hcap⟩, h2⟩ := ha
  simp only [VRs] at h2
  subst h2
  obtain ⟨c2, fr2, hb2, hle, hfr, hat⟩ := hg.blk id _ b base hid hm
  rw [hb] at hb2
  cases hb2
  have hargv : argv = #[.slice (some ⟨b, base + 0, none⟩) (ss.map (·.toList)).length k] := by
    apply Array.ext'
    rw [h1]; simp
  rw [hargv]
  rw [VRat_iff] at hat
  have hcell : ∀ i s, ss[i]? = some s → w.cell? ⟨b, base + i, none⟩ = some (.string s) := by
    intro i s hs
    obtain ⟨v, hv, hvr⟩ := hat i (.str s) (by simp [hs])
    rw [hv]; exact congrArg some hvr
  have hH : Holds encStr w b (base + 0) (ss.map (·.toList)).toArray := by
    intro j hj
    have hj' : j < ss.length := by simpa using hj
    rw [Nat.add_zero]
    refine ⟨?_, frozen_of hb (hfr _ (by omega) (by simp at hle; omega))⟩
    rw [hcell j ss[j] (List.getElem?_eq_getElem hj')]
    simp [getElem!_pos, hj', encStr_toList]
  refine (Any.slices_Sort_string Ly b (base + 0) k (ss.map (·.toList)) w hH (hg.lt id b base hm) (by simpa using hl)).mono ?_
  rintro ev w' ⟨rfl, n, os, rfl⟩
  have key : ∀ S : List (List UInt8), S.length = ss.length → ∃ v' r H' ro' μ', Ending.returned (Value.tuple #[]) = .returned v' ∧ (r = .tup [] ∧ ∃ zs : List ByteArray, zs.map (·.toList) = S ∧ H' = H.set id (.cells e (zs.map .str))) ∧
      VR P (Go.Sort.grow (putRow encStr (Go.Sort.ahead w n) b (base + 0) S.toArray) os) ro' μ' r v' ∧ Good P (Go.Sort.grow (putRow encStr (Go.Sort.ahead w n) b (base + 0) S.toArray) os) ro' μ' H' ∧ Out w ro μ H (Go.Sort.grow (putRow encStr (Go.Sort.ahead w n) b (base + 0) S.toArray) os) ro' μ' H' := by
    intro S hS
    obtain ⟨g1, o1⟩ := hg.ahead n
    have hb1 : (Go.Sort.ahead w n).heap[b]? = some (.cells c e fr) := hb
    have hput : ∀ x : Nat, (putRow encStr (Go.Sort.ahead w n) b (base + 0) S.toArray).heap[x]? = if b = x then some (.cells (putCells encStr (base + 0) S.toArray c) e fr) else w.heap[x]? := by
      intro x
      simp only [putRow, mapBlock, Array.getElem?_modify]
      by_cases hx : b = x
      · subst hx
        simp only [if_true, hb1, Option.map_some, onCells]
      · simp only [if_neg hx]; rfl
    have hpc : (putCells encStr (base + 0) S.toArray c).size = c.size := by simp [putCells]
    have hkeep : Keep (Go.Sort.ahead w n) (putRow encStr (Go.Sort.ahead w n) b (base + 0) S.toArray) (fun x => x = b) := by
      refine ⟨by rw [size_putRow]; exact Nat.le_refl _, fun x _ hx => ?_, fun x c' e' fr' hc => ?_, rfl, rfl, rfl⟩
      · rw [hput, if_neg (fun e => hx e.symm)]; rfl
      · by_cases hx : b = x
        · subst hx
          rw [hb1] at hc; cases hc
          exact ⟨_, _, by rw [hput, if_pos rfl], hpc⟩
        · exact ⟨c', fr', by rw [hput, if_neg hx]; exact hc, rfl⟩
    have hH1 : Holds encStr (Go.Sort.ahead w n) b (base + 0) (ss.map (·.toList)).toArray := hH
    have hzs : (S.map fun l => (⟨l.toArray⟩ : ByteArray)).map (·.toList) = S := by
      rw [List.map_map]
      have : ((fun x : ByteArray => x.toList) ∘ fun l : List UInt8 => (⟨l.toArray⟩ : ByteArray)) = fun l => l := by
        funext l; simp [ByteArray.toList_eq]
      rw [this, List.map_id']
    have hbr : BR P (putRow encStr (Go.Sort.ahead w n) b (base + 0) S.toArray) ro μ b base (.cells e ((S.map fun l => (⟨l.toArray⟩ : ByteArray)).map .str)) := by
      refine ⟨_, fr, by rw [hput, if_pos rfl], by rw [hpc]; simpa [hS] using hle, by rw [hpc]; exact hfr, ?_⟩
      rw [VRat_iff]
      intro i a hi
      have hiS : i < S.length := by
        have := (List.getElem?_eq_some_iff.mp hi).1; simpa using this
      have hc := cell?_putRow encStr (Go.Sort.ahead w n) b (base + 0) _ S.toArray hH1 (by simp [hS]) i (by simpa using hiS)
      refine ⟨_, hc, ?_⟩
      simp only [List.map_map, List.getElem?_map, List.getElem?_eq_getElem hiS, Option.map_some, Option.some.injEq, Function.comp] at hi
      subst hi
      simp [VR, encStr, getElem!_pos, hiS]
    obtain ⟨g2, o2⟩ := g1.put hid hm hkeep hbr (by rw [size_putRow])
    obtain ⟨g3, o3⟩ := g2.grow os
    exact ⟨_, .tup [], _, ro, μ, rfl, ⟨rfl, _, hzs, rfl⟩, ⟨#[], rfl, rfl⟩, g3, o1.trans (o2.trans o3)⟩
  exact key _ (by rw [List.length_mergeSort, List.length_map])
end Go.Am
