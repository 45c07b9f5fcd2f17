/- Rows that grow, of elements of any size, one element at a time. -/
import Derived.Test.YtilfjbbfabcdlaaGreatDoorAm34
set_option linter.unusedVariables false
set_option linter.unusedSimpArgs false
namespace Go.Am

/-- A row that began as nil and has been appended to. -/
def Grow (H : AHeap) (t n : Nat) (x : AVal) (len : Nat) (cs : List AVal) : Prop :=
  cs.length = len * n ∧ ((x = .nils ∧ len = 0) ∨ ∃ id, x = .sl id 0 len none ∧ H.get id = some (.cells t cs))
theorem Grow.nils (H : AHeap) (t n : Nat) : Grow H t n .nils 0 [] := ⟨by simp, .inl ⟨rfl, rfl⟩⟩
theorem Grow.alen {H : AHeap} {t n : Nat} {x : AVal} {len : Nat} {cs : List AVal} (h : Grow H t n x len cs) : alen x = some len := by
  obtain ⟨_, ⟨rfl, rfl⟩ | ⟨id, rfl, _⟩⟩ := h <;> rfl
theorem Grow.alenT {H H' : AHeap} {t n : Nat} {x : AVal} {len : Nat} {cs : List AVal} (h : Grow H t n x len cs) : alenT H' 1 x = some len := by
  obtain ⟨_, ⟨rfl, rfl⟩ | ⟨id, rfl, _⟩⟩ := h <;> rfl
theorem Grow.str {H : AHeap} {t n : Nat} {x : AVal} {len : Nat} {cs : List AVal} (h : Grow H t n x len cs) : isStr x = false := by
  obtain ⟨_, ⟨rfl, rfl⟩ | ⟨id, rfl, _⟩⟩ := h <;> rfl
theorem Grow.cells {H : AHeap} {t n : Nat} {x : AVal} {len : Nat} {cs : List AVal} (h : Grow H t n x len cs) : sliceCells H n x = some cs := by
  obtain ⟨hl, ⟨rfl, rfl⟩ | ⟨id, rfl, hb⟩⟩ := h
  · have : cs = [] := List.eq_nil_of_length_eq_zero (by simpa using hl)
    subst this; rfl
  · simp only [sliceCells, hb]
    rw [if_pos (by omega), List.drop_zero, ← hl, List.take_length]
theorem Grow.lt {H : AHeap} {t n : Nat} {x : AVal} {len : Nat} {cs : List AVal} (h : Grow H t n x len cs) {i : Nat} (hi : rid x = some i) : i < H.next := by
  obtain ⟨_, ⟨rfl, rfl⟩ | ⟨id, rfl, hb⟩⟩ := h
  · cases hi
  · simp only [rid, Option.some.injEq] at hi; subst hi; exact AHeap.get_lt hb
theorem Grow.frame {H H' : AHeap} {t n : Nat} {x : AVal} {len : Nat} {cs : List AVal} (h : Grow H t n x len cs) (hf : ∀ id, rid x = some id → H'.get id = H.get id) : Grow H' t n x len cs := by
  obtain ⟨hl, ⟨rfl, rfl⟩ | ⟨id, rfl, hb⟩⟩ := h
  · exact ⟨hl, .inl ⟨rfl, rfl⟩⟩
  · exact ⟨hl, .inr ⟨id, rfl, (hf id rfl).trans hb⟩⟩

theorem Grow.one {H : AHeap} {t n : Nat} {x : AVal} {len : Nat} {cs : List AVal} (h : Grow H t n x len cs) {id t' : Nat} {new : List AVal} (hy : H.get id = some (.cells t' new)) (hnew : new.length = n) (ho : ones new = true) (hn : 0 < n) {b : Nat} (hb : (len + 1) * b ≤ 140737488355328) (hl : len + 1 < 9223372036854775808) :
    ∃ x' H', aapp t n b H x (.sl id 0 1 (some 1)) = some (x', H') ∧ Grow H' t n x' (len + 1) (cs ++ new) ∧ H.next ≤ H'.next ∧ (∀ i, i < H.next → rid x ≠ some i → H'.get i = H.get i) ∧ (∀ i, rid x' = some i → H.next ≤ i) := by
  have hsl : sliceCells H n (.sl id 0 1 (some 1)) = some new := by
    simp only [sliceCells, hy]
    rw [if_pos (by omega), List.drop_zero, Nat.one_mul, ← hnew, List.take_length]
  have hno : ¬ (ones new = false ∨ n = 0 ∨ new.length ≠ 1 * n) := by
    rw [ho, hnew]; simp; omega
  obtain ⟨hcl, ⟨rfl, rfl⟩ | ⟨i0, rfl, hx⟩⟩ := h
  · have : cs = [] := List.eq_nil_of_length_eq_zero (by simpa using hcl)
    subst this
    refine ⟨.sl H.next 0 1 none, H.push (.cells t new), ?_, ⟨by simp [hnew], .inr ⟨H.next, rfl, by rw [AHeap.get_push, if_pos rfl]; rfl⟩⟩, by simp, fun i hi _ => by rw [AHeap.get_push, if_neg (by omega)], fun i hi => ?_⟩
    · simp only [aapp, Go.Am.alen, hsl, if_neg hno]
      rw [if_neg (by omega), if_pos ⟨by simpa using hb, by omega⟩]
    · simp only [rid, Option.some.injEq] at hi; omega
  · refine ⟨.sl H.next 0 (len + 1) none, (H.del i0).push (.cells t (cs ++ new)), ?_, ⟨by rw [List.length_append, hcl, hnew, Nat.succ_mul], .inr ⟨H.next, by rfl, by
      have h1' : (H.del i0).next = H.next := rfl
      rw [AHeap.get_push, h1', if_pos rfl]⟩⟩, by simp [AHeap.push, AHeap.del], fun i hi hne => ?_, fun i hi => ?_⟩
    · simp only [aapp, Go.Am.alen, hsl, if_neg hno, hx]
      have hmul : (len + 1) * n = len * n + n := Nat.succ_mul _ _
      rw [if_neg (by omega), if_pos ⟨by omega, hb, hl, trivial⟩, if_neg (by omega), if_pos (by omega), List.drop_zero, ← hcl, List.take_length]
    · have h1' : (H.del i0).next = H.next := rfl
      rw [AHeap.get_push, h1', if_neg (by omega), AHeap.get_del, if_neg (fun e => hne (by simp [rid, e]))]
    · simp only [rid, Option.some.injEq] at hi; omega

/-- Bytes as a string. -/
def u8s (l : List Int) : List AVal := l.map (AVal.int .u8)
def strOf (l : List Int) : ByteArray := ⟨(l.map fun n => UInt8.ofNat n.toNat).toArray⟩
theorem bytesOf_u8s : ∀ l : List Int, bytesOf (u8s l) = some (l.map fun n => UInt8.ofNat n.toNat)
  | [] => rfl
  | n :: r => by
    show (bytesOf (u8s r)).map _ = _
    rw [bytesOf_u8s r]; rfl
theorem Grow.toStr {H : AHeap} {t : Nat} {x : AVal} {len : Nat} {l : List Int} (h : Grow H t 1 x len (u8s l)) : abytesStr H x = some (.str (strOf l)) := by
  simp only [abytesStr, h.str, h.alen, h.cells, bytesOf_u8s, Bool.false_eq_true, if_false, Option.map_some]
  rfl
theorem ones_u8 (n : Int) : ones [AVal.int .u8 n] = true := rfl
theorem u8s_snoc (l : List Int) (n : Int) : u8s l ++ [.int .u8 n] = u8s (l ++ [n]) := by simp [u8s]

/-- A block that is a struct's, stored and loaded whole. -/
theorem store_all {H : AHeap} {id : Nat} {e : TypeId} {cs new : List AVal} (h : H.get id = some (.cells e cs)) (hl : new.length = cs.length) (ho : ones new = true) {n : Nat} (hn : cs.length = n) : astore H n (.ptr id 0) (.agg new) = some (H.set id (.cells e new)) := by
  have hp : aput cs 0 new = new := by
    unfold aput
    rw [List.take_zero, List.nil_append, List.drop_eq_nil_of_le (by omega), List.append_nil]
  have hc : (AVal.agg new).cells = new := rfl
  simp only [astore, h, hc, hp]
  rw [if_pos ⟨by omega, by omega, ho⟩]
theorem load_all {H : AHeap} {id : Nat} {e : TypeId} {cs : List AVal} (h : H.get id = some (.cells e cs)) {n : Nat} (hn : cs.length = n) : aload H (some n) (.ptr id 0) = some (.agg cs) := by
  have hc : cellsAt H (.ptr id 0) = some cs := by
    simp only [cellsAt, h]
    rw [if_pos (by omega), List.drop_zero]
  unfold aload
  rw [hc]
  cases cs with
  | nil => simp at hn; subst hn; rfl
  | cons c r =>
    simp only
    rw [if_pos (by omega), ← hn, List.take_length]
end Go.Am
