/- A row with one more in it. -/
import Derived.Test.YtilfjbbfabcdlaaGreatDoorAm27
set_option linter.unusedVariables false
set_option linter.unusedSimpArgs false
namespace Go.Am

theorem Row.one (H : AHeap) (t : TypeId) (v : AVal) : Row (H.push (.cells t [v])) t (.sl H.next 0 1 (some 1)) [v] :=
  ⟨by simp [sliceCells, AHeap.get_push], rfl, rfl, rfl, rfl⟩

structure PartA (H : AHeap) (r : Nat) (o : Nat) (x : AVal) (t : TypeId) (b i : Nat) (v : AVal) (us : List AVal) (x1 x2 x5 : AVal) (H2 H4 : AHeap) : Prop where
  l1 : aload (H.push (.cells t [])) none (.ptr r o) = some x
  t1 : rowOf (H.push (.cells t [])) t x = true
  s1 : ∀ (T : Env) (q : AOpnd), T.val q = some (.int .i64 (i : Int)) → aslc 1 T x none (some q) none = some x1
  a1 : aapp t 1 b (H.push (.cells t [])) (.sl H.next 0 0 (some 0)) x1 = some (x2, H2)
  a2 : aapp t 1 b (H2.push (.cells t [v])) x2 (.sl H2.next 0 1 (some 1)) = some (x5, H4)
  own : Own H4 t x5 us
  mine : ∀ id, rid x5 = some id → H.next ≤ id
  next : H.next ≤ H4.next
  same : ∀ j, j < H.next → H4.get j = H.get j

theorem partA {H : AHeap} {r : Nat} {e : TypeId} {cs : List AVal} {o : Nat} {x : AVal} {t : TypeId} {b i : Nat} {xs : List AVal} (hr : H.get r = some (.cells e cs)) (ho : cs[o]? = some x) (hrow : Row H t x xs) (hi : i ≤ xs.length) (hones : ones xs = true) {v : AVal} (hv : v.one = true)
    (hb : (xs.length + 1) * b ≤ 140737488355328) (hl : xs.length + 1 < 9223372036854775808) : ∃ x1 x2 x5 H2 H4, PartA H r o x t b i v (xs.take i ++ [v]) x1 x2 x5 H2 H4 := by
  have hrl := AHeap.get_lt hr
  have same1 : ∀ j, j < H.next → (H.push (.cells t [])).get j = H.get j := fun j hj => by rw [AHeap.get_push, if_neg (by omega)]
  have n1 : (H.push (.cells t [])).next = H.next + 1 := rfl
  have hr1 : (H.push (.cells t [])).get r = some (.cells e cs) := (same1 r hrl).trans hr
  have row1 : Row (H.push (.cells t [])) t x xs := hrow.frame fun id hid => same1 id (hrow.ltn hid)
  obtain ⟨x1, s1, rw1, _⟩ := row1.upto' (i := i) hi
  have hb1 : (([] : List AVal).length + (xs.take i).length) * b ≤ 140737488355328 := by
    refine Nat.le_trans (Nat.mul_le_mul_right _ ?_) hb
    simp; omega
  obtain ⟨x2, H2, a1, own2, n2, f2, rd2⟩ := (Own.fresh H t).app rw1 (ones_take hones i) hb1 (by simp; omega)
  have rd2' : ∀ id, rid x2 = some id → H.next ≤ id := by
    intro id hid
    rcases rd2 id hid with h | h
    · simp only [rid, Option.some.injEq] at h; omega
    · omega
  have same2 : ∀ j, j < H.next → H2.get j = H.get j := fun j hj => by
    rw [f2 j (by omega) (by simp only [rid, ne_eq, Option.some.injEq]; omega), same1 j hj]
  have own2' : Own (H2.push (.cells t [v])) t x2 ([] ++ xs.take i) := own2.frame fun id hid => by rw [AHeap.get_push, if_neg (by have := own2.lt hid; omega)]
  have hb2 : (([] ++ xs.take i).length + [v].length) * b ≤ 140737488355328 := by
    refine Nat.le_trans (Nat.mul_le_mul_right _ ?_) hb
    simp; omega
  have n3 : (H2.push (.cells t [v])).next = H2.next + 1 := rfl
  obtain ⟨x5, H4, a2, own4, n4, f4, rd4⟩ := own2'.app (Row.one H2 t v) (by simp [ones, hv]) hb2 (by simp; omega)
  refine ⟨x1, x2, x5, H2, H4, load_cell hr1 ho, row1.typ, s1, a1, a2, own4, fun id hid => ?_, by omega, fun j hj => ?_⟩
  · rcases rd4 id hid with h | h
    · exact rd2' id h
    · omega
  · rw [f4 j (by omega) (fun h => by have := rd2' j h; omega), AHeap.get_push, if_neg (by omega), same2 j hj]

structure PartB (H : AHeap) (r : Nat) (e : TypeId) (cs : List AVal) (o : Nat) (x : AVal) (t : TypeId) (b i : Nat) (x5 : AVal) (vs : List AVal) (x6 x7 : AVal) (H5 H6 : AHeap) (base : Nat) : Prop where
  l1 : aload H none (.ptr r o) = some x
  t1 : rowOf H t x = true
  s1 : ∀ (T : Env) (q : AOpnd), T.val q = some (.int .i64 (i : Int)) → aslc 1 T x (some q) none none = some x6
  a1 : aapp t 1 b H x5 x6 = some (x7, H5)
  st : astore H5 1 (.ptr r o) x7 = some H6
  row : Row H6 t x7 vs
  sep : rid x7 ≠ some r
  blk : H6.get r = some (.cells e (cs.set o x7))
  next : H.next ≤ H6.next
  same : ∀ j, j < H.next → j ≠ r → rid x5 ≠ some j → H6.get j = H.get j
  mine : ∀ id, rid x7 = some id → rid x5 = some id ∨ H.next ≤ id

theorem partB {H : AHeap} {r : Nat} {e : TypeId} {cs : List AVal} {o : Nat} {x : AVal} {t : TypeId} {b i : Nat} {xs us : List AVal} (hr : H.get r = some (.cells e cs)) (ho : cs[o]? = some x) (hrow : Row H t x xs) (hi : i ≤ xs.length) (hones : ones xs = true) {x5 : AVal} (own : Own H t x5 us) {base : Nat} (hbase : ∀ id, rid x5 = some id → base ≤ id) (hrb : r < base) (hbn : base ≤ H.next)
    (hb : (us.length + xs.length) * b ≤ 140737488355328) (hl : us.length + xs.length < 9223372036854775808) : ∃ x6 x7 H5 H6, PartB H r e cs o x t b i x5 (us ++ xs.drop i) x6 x7 H5 H6 base := by
  have hol : o < cs.length := (List.getElem?_eq_some_iff.mp ho).1
  obtain ⟨x6, s1, rw6, _⟩ := hrow.from' (i := i) hi
  have hb1 : (us.length + (xs.drop i).length) * b ≤ 140737488355328 := by
    refine Nat.le_trans (Nat.mul_le_mul_right _ ?_) hb
    simp
  obtain ⟨x7, H5, a1, own7, n7, f7, rd7⟩ := own.app rw6 (ones_drop hones i) hb1 (by simp; omega)
  have hx5r : rid x5 ≠ some r := fun h => by have := hbase r h; omega
  have hm : ∀ id, rid x7 = some id → base ≤ id := by
    intro id hid
    rcases rd7 id hid with h | h
    · exact hbase id h
    · omega
  have hr5 : H5.get r = some (.cells e cs) := (f7 r (by omega) hx5r).trans hr
  have hx7 : rid x7 ≠ some r := fun h => by have := hm r h; omega
  refine ⟨x6, x7, H5, H5.set r (.cells e (cs.set o x7)), load_cell hr ho, hrow.typ, s1, a1, astore_one hr5 hol own7.one, ?_, hx7, ?_, n7, ?_, rd7⟩
  · exact own7.row.frame fun id hid => by rw [AHeap.get_set, if_neg (fun h => hx7 (by rw [hid, h]))]
  · rw [AHeap.get_set, if_pos rfl, if_pos (by omega)]
  · intro j hj hjr hjx
    rw [AHeap.get_set, if_neg hjr, f7 j hj hjx]

section
open Go.RowKit
variable {P : Program} {ks : Keeps} {nt : Nat} {k : List AItem} {T : Env} {H : AHeap}
theorem Runs.only (l : List Nat) {K : Env → AHeap → Prop} (h : Runs P ks nt k (T.keep l) H K) : Runs P ks nt k T H K :=
  fun items hc w ro μ a hg hT hs hd b cs => h items hc w ro μ a hg (hT.keep l) hs hd b cs
theorem DR.only (l : List Nat) {Q : Env → AHeap → Prop} (h : DR P ks nt k (T.keep l) H Q) : DR P ks nt k T H Q := h.lift fun _ => Runs.only l
theorem Runs.yes {u : AOpnd} {x y : ACode} {K : Env → AHeap → Prop} (hu : T.val u = some (.bool true)) (h : Runs P ks nt (.code x :: k) T H K) : Runs P ks nt (.code (.cond u x y) :: k) T H K := Runs.cond hu h
theorem Runs.no {u : AOpnd} {x y : ACode} {K : Env → AHeap → Prop} (hu : T.val u = some (.bool false)) (h : Runs P ks nt (.code y :: k) T H K) : Runs P ks nt (.code (.cond u x y) :: k) T H K := Runs.cond hu h
end
end Go.Am
