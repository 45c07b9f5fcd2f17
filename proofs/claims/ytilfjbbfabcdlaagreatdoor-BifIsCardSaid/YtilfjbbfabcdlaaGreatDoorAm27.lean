/- A row anew, out of two parts of another, put in its place. -/
import Derived.Test.YtilfjbbfabcdlaaGreatDoorAm26
set_option linter.unusedVariables false
set_option linter.unusedSimpArgs false
namespace Go.Am

theorem load_cell {H : AHeap} {id : Nat} {e : TypeId} {cs : List AVal} (h : H.get id = some (.cells e cs)) {o : Nat} {v : AVal} (hv : cs[o]? = some v) : aload H none (.ptr id o) = some v := by
  have hlt : o < cs.length := (List.getElem?_eq_some_iff.mp hv).1
  simp only [aload, cellsAt, h]
  rw [if_pos (by omega), List.drop_eq_getElem_cons hlt]
  rw [List.getElem?_eq_getElem hlt] at hv
  injection hv with hv
  simp only [hv]
theorem push_next (H : AHeap) (b : ABlk) : (H.push b).next = H.next + 1 := rfl
theorem set_next (H : AHeap) (i : Nat) (b : ABlk) : (H.set i b).next = H.next := rfl
theorem del_next (H : AHeap) (i : Nat) : (H.del i).next = H.next := rfl
theorem ones_take {l : List AVal} (h : ones l = true) (i : Nat) : ones (l.take i) = true := by
  unfold ones at h ⊢
  rw [List.all_eq_true] at h ⊢
  exact fun x hx => h x (List.mem_of_mem_take hx)
theorem ones_drop {l : List AVal} (h : ones l = true) (i : Nat) : ones (l.drop i) = true := by
  unfold ones at h ⊢
  rw [List.all_eq_true] at h ⊢
  exact fun x hx => h x (List.mem_of_mem_drop hx)
theorem aput_one {cs : List AVal} {o : Nat} {x : AVal} (h : o < cs.length) : aput cs o [x] = cs.set o x := by
  unfold aput
  rw [List.set_eq_take_append_cons_drop, if_pos h]
  simp
theorem astore_one {H : AHeap} {id : Nat} {e : TypeId} {cs : List AVal} (h : H.get id = some (.cells e cs)) {o : Nat} (ho : o < cs.length) {x : AVal} (hx : x.one = true) : astore H 1 (.ptr id o) x = some (H.set id (.cells e (cs.set o x))) := by
  have hc : x.cells = [x] := by cases x <;> first | rfl | simp [AVal.one] at hx
  simp only [astore, h, hc, aput_one ho]
  rw [if_pos ⟨rfl, by omega, by simp [ones, hx]⟩]
theorem Own.one {H : AHeap} {t : TypeId} {x : AVal} {vs : List AVal} (h : Own H t x vs) : x.one = true := by
  obtain ⟨id, ⟨rfl, _, _⟩ | ⟨rfl, _⟩⟩ := h <;> rfl
theorem Own.fresh (H : AHeap) (t : TypeId) : Own (H.push (.cells t [])) t (.sl H.next 0 0 (some 0)) [] := ⟨H.next, .inl ⟨rfl, by simp [AHeap.get_push], rfl⟩⟩

structure Rebuilt (H : AHeap) (r : Nat) (e : TypeId) (cs : List AVal) (o : Nat) (x : AVal) (t : TypeId) (b i : Nat) (vs : List AVal) (x1 x2 x3 x4 : AVal) (H2 H3 H4 : AHeap) : Prop where
  l0 : aload H none (.ptr r o) = some x
  l1 : aload (H.push (.cells t [])) none (.ptr r o) = some x
  l2 : aload H2 none (.ptr r o) = some x
  t0 : rowOf H t x = true
  t1 : rowOf (H.push (.cells t [])) t x = true
  t2 : rowOf H2 t x = true
  s1 : ∀ (T : Env) (q : AOpnd), T.val q = some (.int .i64 (i : Int)) → aslc 1 T x none (some q) none = some x1
  s2 : ∀ (T : Env) (q : AOpnd), T.val q = some (.int .i64 ((i + 1 : Nat) : Int)) → aslc 1 T x (some q) none none = some x3
  a1 : aapp t 1 b (H.push (.cells t [])) (.sl H.next 0 0 (some 0)) x1 = some (x2, H2)
  a2 : aapp t 1 b H2 x2 x3 = some (x4, H3)
  st : astore H3 1 (.ptr r o) x4 = some H4
  row : Row H4 t x4 vs
  sep : rid x4 ≠ some r
  blk : H4.get r = some (.cells e (cs.set o x4))
  next : H.next ≤ H4.next
  same : ∀ j, j < H.next → j ≠ r → H4.get j = H.get j

theorem rebuilt {H : AHeap} {r : Nat} {e : TypeId} {cs : List AVal} {o : Nat} {x : AVal} {t : TypeId} {b i : Nat} {xs : List AVal} (hr : H.get r = some (.cells e cs)) (ho : cs[o]? = some x) (hrow : Row H t x xs) (hne : rid x ≠ some r) (hi : i < xs.length) (hones : ones xs = true)
    (hb : xs.length * b ≤ 140737488355328) (hl : xs.length < 9223372036854775808) : ∃ x1 x2 x3 x4 H2 H3 H4, Rebuilt H r e cs o x t b i (xs.take i ++ xs.drop (i + 1)) x1 x2 x3 x4 H2 H3 H4 := by
  have hol : o < cs.length := (List.getElem?_eq_some_iff.mp ho).1
  have hrl := AHeap.get_lt hr
  have same1 : ∀ j, j < H.next → (H.push (.cells t [])).get j = H.get j := fun j hj => by rw [AHeap.get_push, if_neg (by omega)]
  have n1 : (H.push (.cells t [])).next = H.next + 1 := rfl
  have hr1 : (H.push (.cells t [])).get r = some (.cells e cs) := (same1 r hrl).trans hr
  have row1 : Row (H.push (.cells t [])) t x xs := hrow.frame fun id hid => same1 id (hrow.ltn hid)
  obtain ⟨x1, s1, rw1, _⟩ := row1.upto' (i := i) (by omega)
  have hb1 : (([] : List AVal).length + (xs.take i).length) * b ≤ 140737488355328 := by
    refine Nat.le_trans (Nat.mul_le_mul_right _ ?_) hb
    simp; omega
  obtain ⟨x2, H2, a1, own2, n2, f2, rd2⟩ := (Own.fresh H t).app rw1 (ones_take hones i) hb1 (by simp; omega)
  have rd2' : ∀ id, rid x2 = some id → H.next ≤ id := by
    intro id hid
    rcases rd2 id hid with h | h
    · simp only [rid, Option.some.injEq] at h; omega
    · omega
  have same2 : ∀ j, j < H.next → H2.get j = H.get j := fun j hj => by
    rw [f2 j (by omega) (by simp only [rid, ne_eq, Option.some.injEq]; omega), same1 j hj]
  have hr2 : H2.get r = some (.cells e cs) := (same2 r hrl).trans hr
  have row2 : Row H2 t x xs := hrow.frame fun id hid => same2 id (hrow.ltn hid)
  obtain ⟨x3, s2, rw3, _⟩ := row2.from' (i := i + 1) (by omega)
  have hb2 : (([] ++ xs.take i).length + (xs.drop (i + 1)).length) * b ≤ 140737488355328 := by
    refine Nat.le_trans (Nat.mul_le_mul_right _ ?_) hb
    simp; omega
  obtain ⟨x4, H3, a2, own3, n3, f3, rd3⟩ := own2.app rw3 (ones_drop hones (i + 1)) hb2 (by simp; omega)
  have rd4 : ∀ id, rid x4 = some id → H.next ≤ id := by
    intro id hid
    rcases rd3 id hid with h | h
    · exact rd2' id h
    · omega
  have same3 : ∀ j, j < H.next → H3.get j = H.get j := fun j hj => by
    rw [f3 j (by omega) (fun h => by have := rd2' j h; omega), same2 j hj]
  have hr3 : H3.get r = some (.cells e cs) := (same3 r hrl).trans hr
  have hn : H.next ≤ H3.next := by omega
  refine ⟨x1, x2, x3, x4, H2, H3, H3.set r (.cells e (cs.set o x4)), load_cell hr ho, load_cell hr1 ho, load_cell hr2 ho, hrow.typ, row1.typ, row2.typ, s1, s2, a1, a2, astore_one hr3 hol own3.one, ?_, ?_, ?_, hn, ?_⟩
  · refine own3.row.frame fun id hid => ?_
    rw [AHeap.get_set, if_neg (fun h => by have := rd4 id hid; omega)]
  · exact fun h => by have := rd4 r h; omega
  · rw [AHeap.get_set, if_pos rfl, if_pos (by omega)]
  · intro j hj hjr
    rw [AHeap.get_set, if_neg hjr, same3 j hj]
end Go.Am
