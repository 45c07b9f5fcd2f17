import Derived.Test.YtakbdcikjpmmiaaW3
import Derived.Laws.StructEq
set_option linter.unusedVariables false
set_option linter.unusedSimpArgs false
namespace Go.Am.Rn
open Go.Proofs

theorem toList_inj {a b : ByteArray} (h : a.toList = b.toList) : a = b := by
  rw [ByteArray.toList_eq, ByteArray.toList_eq] at h
  cases a; cases b
  congr 1
  exact Array.ext' h
theorem beq_ba {a b : ByteArray} : (a == b) = true ↔ a = b := by
  rw [beq_toListBytes]
  exact ⟨fun h => toList_inj (by simpa using h), fun h => by subst h; simp⟩

theorem look1_at {A : List Rec} (hd : (A.map (·.nm)).Nodup) : ∀ {i k : Nat} {a : Rec}, A[k]? = some a → look1 a.nm A i = some (i + k, a) := by
  induction A with
  | nil => intro i k a h; simp at h
  | cons b r ih =>
    intro i k a h
    simp only [List.map_cons, List.nodup_cons] at hd
    cases k with
    | zero => simp at h; subst h; simp [look1, beq_ba]
    | succ k =>
      simp at h
      have hne : ¬ a.nm = b.nm := fun e => hd.1 (by rw [← e]; exact List.mem_map.mpr ⟨a, List.mem_of_getElem? h, rfl⟩)
      simp only [look1]
      rw [if_neg (fun e => hne (beq_ba.mp e)), ih hd.2 h]
      congr 2; omega
theorem look2_lt {s : Int} : ∀ {A : List Rec} {i j : Nat} {a : Rec}, look2 s A i = some (j, a) → i ≤ j ∧ A[j - i]? = some a ∧ s = a.pid
  | [], _, _, _, h => by cases h
  | b :: r, i, j, a, h => by
    simp only [look2] at h
    split at h
    · rename_i hb; cases h; exact ⟨Nat.le_refl _, by simp, by simpa using hb⟩
    · obtain ⟨h1, h2, h3⟩ := look2_lt h
      refine ⟨by omega, ?_, h3⟩
      rw [show j - i = (j - (i + 1)) + 1 by omega]; simpa using h2

theorem g14 {H : AHeap} {n : Nat} {A : List Rec} {e : TypeId} {m1 m2 c1 c2 : Nat} (h : NamAt H n A e m1 m2 c1 c2) (hd : (A.map (·.pid)).Nodup) (hd' : (A.map (·.nm)).Nodup) (p : Int) :
    DCall Try.prog 14 [.ptr n 0, .int .i64 p] H fun a H' => Only H H' m1 m2 ∧ match look2 p A 0 with
      | none => a = .bool false ∧ NamAt H' n A e m1 m2 c1 c2
      | some q => a = .bool true ∧ NamAt H' n (A.eraseIdx q.1) e m1 m2 c1 c2 := by
  refine DCall.of_body (fn := Try.f14) (by kernel_rfl) c14 (by kernel_rfl) (by simp [f14]) ?_
  have hy := load_cell h.blk (o := 1) (v := .map m2) rfl
  have hlk2 := lookup2 h p
  unfold f14
  simp only []
  repeat' (first | refine DR.seq ?_ | refine DR.block ?_ | refine DR.skip ?_ | refine DR.inBlock ?_)
  refine DR.ops ?_
  simp only [r14_0, DO_nil, DO_cons, OR'_nil, OR'_cons, onW_t, onW_f, onN_v, onN_c, onN_a, onB_t, onB_f, wantedA, astep, Env.val, Env.vals, Env.put, Env.set, Env.get, envFrom, Env.keep, afaddr, aun, AVal.cells, Option.bind_eq_bind, Option.bind_some, Option.pure_def, Nat.reduceEqDiff, Nat.succ_ne_self, if_true, if_false, reduceIte, Option.map_some, List.drop_zero, List.drop_succ_cons, List.length_cons, List.length_nil, Nat.reduceAdd, Nat.reduceLeDiff, Nat.zero_le, Nat.le_refl, List.getElem?_cons_zero, List.getElem?_cons_succ, beq_self_eq_true, Bool.false_eq_true, aundef, Nat.zero_add, Nat.add_zero, Bool.not_true, Bool.not_false, Bool.xor_false, Bool.false_xor, Bool.true_xor, Bool.xor_true, and_self, true_and, and_true]
  repeat' (first | refine DR.seq ?_ | refine DR.block ?_ | refine DR.skip ?_ | refine DR.inBlock ?_)
  refine DR.ops ?_
  cases hl : look2 p A 0 with
  | none =>
    simp only [nof, hl] at hlk2
    simp only [r14_1, DO_nil, DO_cons, OR'_nil, OR'_cons, onW_t, onW_f, onN_v, onN_c, onN_a, onB_t, onB_f, wantedA, astep, Env.val, Env.vals, Env.put, Env.set, Env.get, envFrom, Env.keep, afaddr, aun, AVal.cells, Option.bind_eq_bind, Option.bind_some, Option.pure_def, Nat.reduceEqDiff, Nat.succ_ne_self, if_true, if_false, reduceIte, Option.map_some, List.drop_zero, List.drop_succ_cons, List.length_cons, List.length_nil, Nat.reduceAdd, Nat.reduceLeDiff, Nat.zero_le, Nat.le_refl, List.getElem?_cons_zero, List.getElem?_cons_succ, beq_self_eq_true, Bool.false_eq_true, aundef, Nat.zero_add, Nat.add_zero, Bool.not_true, Bool.not_false, Bool.xor_false, Bool.false_xor, Bool.true_xor, Bool.xor_true, and_self, true_and, and_true, hy, hlk2]
    repeat' (first | refine DR.seq ?_ | refine DR.block ?_ | refine DR.skip ?_ | refine DR.inBlock ?_)
    refine DR.ops ?_
    simp only [r14_2, DO_nil, DO_cons, OR'_nil, OR'_cons, onW_t, onW_f, onN_v, onN_c, onN_a, onB_t, onB_f, wantedA, astep, Env.val, Env.vals, Env.put, Env.set, Env.get, envFrom, Env.keep, afaddr, aun, AVal.cells, Option.bind_eq_bind, Option.bind_some, Option.pure_def, Nat.reduceEqDiff, Nat.succ_ne_self, if_true, if_false, reduceIte, Option.map_some, List.drop_zero, List.drop_succ_cons, List.length_cons, List.length_nil, Nat.reduceAdd, Nat.reduceLeDiff, Nat.zero_le, Nat.le_refl, List.getElem?_cons_zero, List.getElem?_cons_succ, beq_self_eq_true, Bool.false_eq_true, aundef, Nat.zero_add, Nat.add_zero, Bool.not_true, Bool.not_false, Bool.xor_false, Bool.false_xor, Bool.true_xor, Bool.xor_true, and_self, true_and, and_true, Bool.true_beq, Bool.false_beq]
    exact DR.ret ⟨_, by simp [aresult, ares, Env.get] <;> rfl, ⟨rfl, fun _ _ _ => rfl⟩, rfl, h⟩
  | some q =>
    obtain ⟨k, a⟩ := q
    simp only [nof, hl] at hlk2
    obtain ⟨_, hk, hp⟩ := look2_lt hl
    rw [Nat.sub_zero] at hk
    simp only [r14_1, DO_nil, DO_cons, OR'_nil, OR'_cons, onW_t, onW_f, onN_v, onN_c, onN_a, onB_t, onB_f, wantedA, astep, Env.val, Env.vals, Env.put, Env.set, Env.get, envFrom, Env.keep, afaddr, aun, AVal.cells, Option.bind_eq_bind, Option.bind_some, Option.pure_def, Nat.reduceEqDiff, Nat.succ_ne_self, if_true, if_false, reduceIte, Option.map_some, List.drop_zero, List.drop_succ_cons, List.length_cons, List.length_nil, Nat.reduceAdd, Nat.reduceLeDiff, Nat.zero_le, Nat.le_refl, List.getElem?_cons_zero, List.getElem?_cons_succ, beq_self_eq_true, Bool.false_eq_true, aundef, Nat.zero_add, Nat.add_zero, Bool.not_true, Bool.not_false, Bool.xor_false, Bool.false_xor, Bool.true_xor, Bool.xor_true, and_self, true_and, and_true, hy, hlk2]
    repeat' (first | refine DR.seq ?_ | refine DR.block ?_ | refine DR.skip ?_ | refine DR.inBlock ?_)
    refine DR.ops ?_
    simp only [r14_2, DO_nil, DO_cons, OR'_nil, OR'_cons, onW_t, onW_f, onN_v, onN_c, onN_a, onB_t, onB_f, wantedA, astep, Env.val, Env.vals, Env.put, Env.set, Env.get, envFrom, Env.keep, afaddr, aun, AVal.cells, Option.bind_eq_bind, Option.bind_some, Option.pure_def, Nat.reduceEqDiff, Nat.succ_ne_self, if_true, if_false, reduceIte, Option.map_some, List.drop_zero, List.drop_succ_cons, List.length_cons, List.length_nil, Nat.reduceAdd, Nat.reduceLeDiff, Nat.zero_le, Nat.le_refl, List.getElem?_cons_zero, List.getElem?_cons_succ, beq_self_eq_true, Bool.false_eq_true, aundef, Nat.zero_add, Nat.add_zero, Bool.not_true, Bool.not_false, Bool.xor_false, Bool.false_xor, Bool.true_xor, Bool.xor_true, and_self, true_and, and_true, Bool.true_beq, Bool.false_beq]
    refine (g16 h hd a.nm).mono ?_
    rintro r H' ⟨ho, hm⟩
    rw [look1_at hd' (i := 0) hk, Nat.zero_add] at hm
    obtain ⟨rfl, hm⟩ := hm
    simp only [DO_nil, DO_cons, OR'_nil, OR'_cons, onW_t, onW_f, onN_v, onN_c, onN_a, onB_t, onB_f, wantedA, astep, Env.val, Env.vals, Env.put, Env.set, Env.get, envFrom, Env.keep, afaddr, aun, AVal.cells, Option.bind_eq_bind, Option.bind_some, Option.pure_def, Nat.reduceEqDiff, Nat.succ_ne_self, if_true, if_false, reduceIte, Option.map_some, List.drop_zero, List.drop_succ_cons, List.length_cons, List.length_nil, Nat.reduceAdd, Nat.reduceLeDiff, Nat.zero_le, Nat.le_refl, List.getElem?_cons_zero, List.getElem?_cons_succ, beq_self_eq_true, Bool.false_eq_true, aundef, Nat.zero_add, Nat.add_zero, Bool.not_true, Bool.not_false, Bool.xor_false, Bool.false_xor, Bool.true_xor, Bool.xor_true, and_self, true_and, and_true, abin]
    exact DR.ret ⟨_, by simp [aresult, ares, Env.get] <;> rfl, ho, rfl, hm⟩

/-- The registry anew. -/
def newHeap (H : AHeap) : AHeap := ((H.push (.map [] 0)).push (.map [] 0)).push (.cells 46 [.map H.next, .map (H.next + 1)])
theorem g6 (H : AHeap) : DCall Try.prog 6 [] H fun a H' => a = .ptr (H.next + 2) 0 ∧ H' = newHeap H := by
  refine DCall.of_body (fn := Try.f6) (by kernel_rfl) c6 (by kernel_rfl) (by simp [f6]) ?_
  unfold f6
  simp only []
  repeat' (first | refine DR.seq ?_ | refine DR.block ?_ | refine DR.skip ?_ | refine DR.inBlock ?_)
  refine DR.ops ?_
  simp only [r6_0, DO_nil, DO_cons, OR'_nil, OR'_cons, onW_t, onW_f, onN_v, onN_c, onN_a, onB_t, onB_f, wantedA, astep, Env.val, Env.vals, Env.put, Env.set, Env.get, envFrom, Env.keep, afaddr, aun, AVal.cells, Option.bind_eq_bind, Option.bind_some, Option.pure_def, Nat.reduceEqDiff, Nat.succ_ne_self, if_true, if_false, reduceIte, Option.map_some, List.drop_zero, List.drop_succ_cons, List.length_cons, List.length_nil, Nat.reduceAdd, Nat.reduceLeDiff, Nat.zero_le, Nat.le_refl, List.getElem?_cons_zero, List.getElem?_cons_succ, beq_self_eq_true, Bool.false_eq_true, aundef, Nat.zero_add, Nat.add_zero, Bool.not_true, Bool.not_false, Bool.xor_false, Bool.false_xor, Bool.true_xor, Bool.xor_true, and_self, true_and, and_true]
  repeat' (first | refine DR.seq ?_ | refine DR.block ?_ | refine DR.skip ?_ | refine DR.inBlock ?_)
  refine DR.ops ?_
  simp only [r6_1, DO_nil, DO_cons, OR'_nil, OR'_cons, onW_t, onW_f, onN_v, onN_c, onN_a, onB_t, onB_f, wantedA, astep, Env.val, Env.vals, Env.put, Env.set, Env.get, envFrom, Env.keep, afaddr, aun, AVal.cells, Option.bind_eq_bind, Option.bind_some, Option.pure_def, Nat.reduceEqDiff, Nat.succ_ne_self, if_true, if_false, reduceIte, Option.map_some, List.drop_zero, List.drop_succ_cons, List.length_cons, List.length_nil, Nat.reduceAdd, Nat.reduceLeDiff, Nat.zero_le, Nat.le_refl, List.getElem?_cons_zero, List.getElem?_cons_succ, beq_self_eq_true, Bool.false_eq_true, aundef, Nat.zero_add, Nat.add_zero, Bool.not_true, Bool.not_false, Bool.xor_false, Bool.false_xor, Bool.true_xor, Bool.xor_true, and_self, true_and, and_true, Env.parts, afill, List.take_zero, List.nil_append]
  refine DR.ret ⟨_, by simp [aresult, ares, Env.get] <;> rfl, rfl, rfl⟩
theorem newHeap_at (H : AHeap) : NamAt (newHeap H) (H.next + 2) [] 46 H.next (H.next + 1) 0 0 := by
  refine ⟨?_, ?_, ?_, by omega, fun a ha => (by cases ha), (by simp)⟩
  · simp [newHeap, AHeap.get_push, push_next]
  · simp [newHeap, AHeap.get_push, push_next]; omega
  · simp [newHeap, AHeap.get_push, push_next]
theorem newHeap_old (H : AHeap) : (newHeap H).next = H.next + 3 ∧ ∀ i, i < H.next → (newHeap H).get i = H.get i := by
  refine ⟨rfl, fun i hi => ?_⟩
  simp only [newHeap, AHeap.get_push, push_next]
  rw [if_neg (by omega), if_neg (by omega), if_neg (by omega)]

/-- The chapter's example. -/
theorem g5 (H : AHeap) : DCall Try.prog 5 [] H fun a H' => a = .bool true ∧ H.next ≤ H'.next ∧ ∀ i, i < H.next → H'.get i = H.get i := by
  refine DCall.of_body (fn := Try.f5) (by kernel_rfl) c5 (by kernel_rfl) (by simp [f5]) ?_
  unfold f5
  simp only []
  repeat' (first | refine DR.seq ?_ | refine DR.block ?_ | refine DR.skip ?_ | refine DR.inBlock ?_)
  refine DR.ops ?_
  simp only [r5_0, DO_nil, DO_cons, OR'_nil, OR'_cons, onW_t, onW_f, onN_v, onN_c, onN_a, onB_t, onB_f, wantedA, astep, Env.val, Env.vals, Env.put, Env.set, Env.get, envFrom, Env.keep, afaddr, aun, AVal.cells, Option.bind_eq_bind, Option.bind_some, Option.pure_def, Nat.reduceEqDiff, Nat.succ_ne_self, if_true, if_false, reduceIte, Option.map_some, List.drop_zero, List.drop_succ_cons, List.length_cons, List.length_nil, Nat.reduceAdd, Nat.reduceLeDiff, Nat.zero_le, Nat.le_refl, List.getElem?_cons_zero, List.getElem?_cons_succ, beq_self_eq_true, Bool.false_eq_true, aundef, Nat.zero_add, Nat.add_zero, Bool.not_true, Bool.not_false, Bool.xor_false, Bool.false_xor, Bool.true_xor, Bool.xor_true, and_self, true_and, and_true]
  repeat' (first | refine DR.seq ?_ | refine DR.block ?_ | refine DR.skip ?_ | refine DR.inBlock ?_)
  refine DR.ops ?_
  simp only [r5_1, DO_nil, DO_cons, OR'_nil, OR'_cons, onW_t, onW_f, onN_v, onN_c, onN_a, onB_t, onB_f, wantedA, astep, Env.val, Env.vals, Env.put, Env.set, Env.get, envFrom, Env.keep, afaddr, aun, AVal.cells, Option.bind_eq_bind, Option.bind_some, Option.pure_def, Nat.reduceEqDiff, Nat.succ_ne_self, if_true, if_false, reduceIte, Option.map_some, List.drop_zero, List.drop_succ_cons, List.length_cons, List.length_nil, Nat.reduceAdd, Nat.reduceLeDiff, Nat.zero_le, Nat.le_refl, List.getElem?_cons_zero, List.getElem?_cons_succ, beq_self_eq_true, Bool.false_eq_true, aundef, Nat.zero_add, Nat.add_zero, Bool.not_true, Bool.not_false, Bool.xor_false, Bool.false_xor, Bool.true_xor, Bool.xor_true, and_self, true_and, and_true]
  refine (g6 H).mono ?_
  rintro r H1 ⟨rfl, rfl⟩
  have n0 := newHeap_at H
  obtain ⟨x0, o0⟩ := newHeap_old H
  simp only [DO_nil, DO_cons, OR'_nil, OR'_cons, onW_t, onW_f, onN_v, onN_c, onN_a, onB_t, onB_f, wantedA, astep, Env.val, Env.vals, Env.put, Env.set, Env.get, envFrom, Env.keep, afaddr, aun, AVal.cells, Option.bind_eq_bind, Option.bind_some, Option.pure_def, Nat.reduceEqDiff, Nat.succ_ne_self, if_true, if_false, reduceIte, Option.map_some, List.drop_zero, List.drop_succ_cons, List.length_cons, List.length_nil, Nat.reduceAdd, Nat.reduceLeDiff, Nat.zero_le, Nat.le_refl, List.getElem?_cons_zero, List.getElem?_cons_succ, beq_self_eq_true, Bool.false_eq_true, aundef, Nat.zero_add, Nat.add_zero, Bool.not_true, Bool.not_false, Bool.xor_false, Bool.false_xor, Bool.true_xor, Bool.xor_true, and_self, true_and, and_true]
  repeat' (first | refine DR.seq ?_ | refine DR.block ?_ | refine DR.skip ?_ | refine DR.inBlock ?_)
  refine DR.ops ?_
  simp only [r5_2, DO_nil, DO_cons, OR'_nil, OR'_cons, onW_t, onW_f, onN_v, onN_c, onN_a, onB_t, onB_f, wantedA, astep, Env.val, Env.vals, Env.put, Env.set, Env.get, envFrom, Env.keep, afaddr, aun, AVal.cells, Option.bind_eq_bind, Option.bind_some, Option.pure_def, Nat.reduceEqDiff, Nat.succ_ne_self, if_true, if_false, reduceIte, Option.map_some, List.drop_zero, List.drop_succ_cons, List.length_cons, List.length_nil, Nat.reduceAdd, Nat.reduceLeDiff, Nat.zero_le, Nat.le_refl, List.getElem?_cons_zero, List.getElem?_cons_succ, beq_self_eq_true, Bool.false_eq_true, aundef, Nat.zero_add, Nat.add_zero, Bool.not_true, Bool.not_false, Bool.xor_false, Bool.false_xor, Bool.true_xor, Bool.xor_true, and_self, true_and, and_true, anil]
  refine DR.no rfl ?_
  repeat' (first | refine DR.seq ?_ | refine DR.block ?_ | refine DR.skip ?_ | refine DR.inBlock ?_)
  refine DR.ops ?_
  simp only [r5_4, DO_nil, DO_cons, OR'_nil, OR'_cons, onW_t, onW_f, onN_v, onN_c, onN_a, onB_t, onB_f, wantedA, astep, Env.val, Env.vals, Env.put, Env.set, Env.get, envFrom, Env.keep, afaddr, aun, AVal.cells, Option.bind_eq_bind, Option.bind_some, Option.pure_def, Nat.reduceEqDiff, Nat.succ_ne_self, if_true, if_false, reduceIte, Option.map_some, List.drop_zero, List.drop_succ_cons, List.length_cons, List.length_nil, Nat.reduceAdd, Nat.reduceLeDiff, Nat.zero_le, Nat.le_refl, List.getElem?_cons_zero, List.getElem?_cons_succ, beq_self_eq_true, Bool.false_eq_true, aundef, Nat.zero_add, Nat.add_zero, Bool.not_true, Bool.not_false, Bool.xor_false, Bool.false_xor, Bool.true_xor, Bool.xor_true, and_self, true_and, and_true]
  refine (g13 n0 ⟨#[97]⟩ 1).mono ?_
  rintro r H2 ⟨o1, k1⟩
  have hb1 : badName ⟨#[97]⟩ = false := by simp [badName, undefd, ByteArray.toList_eq, ByteArray.size]
  have hb2 : badName ⟨#[98]⟩ = false := by simp [badName, undefd, ByteArray.toList_eq, ByteArray.size]
  rw [if_neg (by simp [hb1, look1, look2])] at k1
  obtain ⟨rfl, n1⟩ := k1
  simp only [DO_nil, DO_cons, OR'_nil, OR'_cons, onW_t, onW_f, onN_v, onN_c, onN_a, onB_t, onB_f, wantedA, astep, Env.val, Env.vals, Env.put, Env.set, Env.get, envFrom, Env.keep, afaddr, aun, AVal.cells, Option.bind_eq_bind, Option.bind_some, Option.pure_def, Nat.reduceEqDiff, Nat.succ_ne_self, if_true, if_false, reduceIte, Option.map_some, List.drop_zero, List.drop_succ_cons, List.length_cons, List.length_nil, Nat.reduceAdd, Nat.reduceLeDiff, Nat.zero_le, Nat.le_refl, List.getElem?_cons_zero, List.getElem?_cons_succ, beq_self_eq_true, Bool.false_eq_true, aundef, Nat.zero_add, Nat.add_zero, Bool.not_true, Bool.not_false, Bool.xor_false, Bool.false_xor, Bool.true_xor, Bool.xor_true, and_self, true_and, and_true]
  repeat' (first | refine DR.seq ?_ | refine DR.block ?_ | refine DR.skip ?_ | refine DR.inBlock ?_)
  refine DR.ops ?_
  simp only [r5_5, DO_nil, DO_cons, OR'_nil, OR'_cons, onW_t, onW_f, onN_v, onN_c, onN_a, onB_t, onB_f, wantedA, astep, Env.val, Env.vals, Env.put, Env.set, Env.get, envFrom, Env.keep, afaddr, aun, AVal.cells, Option.bind_eq_bind, Option.bind_some, Option.pure_def, Nat.reduceEqDiff, Nat.succ_ne_self, if_true, if_false, reduceIte, Option.map_some, List.drop_zero, List.drop_succ_cons, List.length_cons, List.length_nil, Nat.reduceAdd, Nat.reduceLeDiff, Nat.zero_le, Nat.le_refl, List.getElem?_cons_zero, List.getElem?_cons_succ, beq_self_eq_true, Bool.false_eq_true, aundef, Nat.zero_add, Nat.add_zero, Bool.not_true, Bool.not_false, Bool.xor_false, Bool.false_xor, Bool.true_xor, Bool.xor_true, and_self, true_and, and_true]
  refine (g13 n1 ⟨#[97]⟩ 2).mono ?_
  rintro r H3 ⟨o2, k2⟩
  rw [if_pos (by simp [look1, beq_ba])] at k2
  obtain ⟨rfl, n2⟩ := k2
  simp only [DO_nil, DO_cons, OR'_nil, OR'_cons, onW_t, onW_f, onN_v, onN_c, onN_a, onB_t, onB_f, wantedA, astep, Env.val, Env.vals, Env.put, Env.set, Env.get, envFrom, Env.keep, afaddr, aun, AVal.cells, Option.bind_eq_bind, Option.bind_some, Option.pure_def, Nat.reduceEqDiff, Nat.succ_ne_self, if_true, if_false, reduceIte, Option.map_some, List.drop_zero, List.drop_succ_cons, List.length_cons, List.length_nil, Nat.reduceAdd, Nat.reduceLeDiff, Nat.zero_le, Nat.le_refl, List.getElem?_cons_zero, List.getElem?_cons_succ, beq_self_eq_true, Bool.false_eq_true, aundef, Nat.zero_add, Nat.add_zero, Bool.not_true, Bool.not_false, Bool.xor_false, Bool.false_xor, Bool.true_xor, Bool.xor_true, and_self, true_and, and_true]
  repeat' (first | refine DR.seq ?_ | refine DR.block ?_ | refine DR.skip ?_ | refine DR.inBlock ?_)
  refine DR.ops ?_
  simp only [r5_6, DO_nil, DO_cons, OR'_nil, OR'_cons, onW_t, onW_f, onN_v, onN_c, onN_a, onB_t, onB_f, wantedA, astep, Env.val, Env.vals, Env.put, Env.set, Env.get, envFrom, Env.keep, afaddr, aun, AVal.cells, Option.bind_eq_bind, Option.bind_some, Option.pure_def, Nat.reduceEqDiff, Nat.succ_ne_self, if_true, if_false, reduceIte, Option.map_some, List.drop_zero, List.drop_succ_cons, List.length_cons, List.length_nil, Nat.reduceAdd, Nat.reduceLeDiff, Nat.zero_le, Nat.le_refl, List.getElem?_cons_zero, List.getElem?_cons_succ, beq_self_eq_true, Bool.false_eq_true, aundef, Nat.zero_add, Nat.add_zero, Bool.not_true, Bool.not_false, Bool.xor_false, Bool.false_xor, Bool.true_xor, Bool.xor_true, and_self, true_and, and_true]
  refine (g13 n2 ⟨#[98]⟩ 1).mono ?_
  rintro r H4 ⟨o3, k3⟩
  rw [if_pos (by simp [look2])] at k3
  obtain ⟨rfl, n3⟩ := k3
  simp only [DO_nil, DO_cons, OR'_nil, OR'_cons, onW_t, onW_f, onN_v, onN_c, onN_a, onB_t, onB_f, wantedA, astep, Env.val, Env.vals, Env.put, Env.set, Env.get, envFrom, Env.keep, afaddr, aun, AVal.cells, Option.bind_eq_bind, Option.bind_some, Option.pure_def, Nat.reduceEqDiff, Nat.succ_ne_self, if_true, if_false, reduceIte, Option.map_some, List.drop_zero, List.drop_succ_cons, List.length_cons, List.length_nil, Nat.reduceAdd, Nat.reduceLeDiff, Nat.zero_le, Nat.le_refl, List.getElem?_cons_zero, List.getElem?_cons_succ, beq_self_eq_true, Bool.false_eq_true, aundef, Nat.zero_add, Nat.add_zero, Bool.not_true, Bool.not_false, Bool.xor_false, Bool.false_xor, Bool.true_xor, Bool.xor_true, and_self, true_and, and_true]
  repeat' (first | refine DR.seq ?_ | refine DR.block ?_ | refine DR.skip ?_ | refine DR.inBlock ?_)
  refine DR.ops ?_
  simp only [r5_7, DO_nil, DO_cons, OR'_nil, OR'_cons, onW_t, onW_f, onN_v, onN_c, onN_a, onB_t, onB_f, wantedA, astep, Env.val, Env.vals, Env.put, Env.set, Env.get, envFrom, Env.keep, afaddr, aun, AVal.cells, Option.bind_eq_bind, Option.bind_some, Option.pure_def, Nat.reduceEqDiff, Nat.succ_ne_self, if_true, if_false, reduceIte, Option.map_some, List.drop_zero, List.drop_succ_cons, List.length_cons, List.length_nil, Nat.reduceAdd, Nat.reduceLeDiff, Nat.zero_le, Nat.le_refl, List.getElem?_cons_zero, List.getElem?_cons_succ, beq_self_eq_true, Bool.false_eq_true, aundef, Nat.zero_add, Nat.add_zero, Bool.not_true, Bool.not_false, Bool.xor_false, Bool.false_xor, Bool.true_xor, Bool.xor_true, and_self, true_and, and_true]
  refine (g14 n3 (by simp) (by simp) 1).mono ?_
  rintro r H5 ⟨o4, k4⟩
  simp only [List.nil_append, look2, beq_self_eq_true, if_true] at k4
  obtain ⟨rfl, n4⟩ := k4
  simp only [DO_nil, DO_cons, OR'_nil, OR'_cons, onW_t, onW_f, onN_v, onN_c, onN_a, onB_t, onB_f, wantedA, astep, Env.val, Env.vals, Env.put, Env.set, Env.get, envFrom, Env.keep, afaddr, aun, AVal.cells, Option.bind_eq_bind, Option.bind_some, Option.pure_def, Nat.reduceEqDiff, Nat.succ_ne_self, if_true, if_false, reduceIte, Option.map_some, List.drop_zero, List.drop_succ_cons, List.length_cons, List.length_nil, Nat.reduceAdd, Nat.reduceLeDiff, Nat.zero_le, Nat.le_refl, List.getElem?_cons_zero, List.getElem?_cons_succ, beq_self_eq_true, Bool.false_eq_true, aundef, Nat.zero_add, Nat.add_zero, Bool.not_true, Bool.not_false, Bool.xor_false, Bool.false_xor, Bool.true_xor, Bool.xor_true, and_self, true_and, and_true]
  repeat' (first | refine DR.seq ?_ | refine DR.block ?_ | refine DR.skip ?_ | refine DR.inBlock ?_)
  refine DR.ops ?_
  simp only [r5_8, DO_nil, DO_cons, OR'_nil, OR'_cons, onW_t, onW_f, onN_v, onN_c, onN_a, onB_t, onB_f, wantedA, astep, Env.val, Env.vals, Env.put, Env.set, Env.get, envFrom, Env.keep, afaddr, aun, AVal.cells, Option.bind_eq_bind, Option.bind_some, Option.pure_def, Nat.reduceEqDiff, Nat.succ_ne_self, if_true, if_false, reduceIte, Option.map_some, List.drop_zero, List.drop_succ_cons, List.length_cons, List.length_nil, Nat.reduceAdd, Nat.reduceLeDiff, Nat.zero_le, Nat.le_refl, List.getElem?_cons_zero, List.getElem?_cons_succ, beq_self_eq_true, Bool.false_eq_true, aundef, Nat.zero_add, Nat.add_zero, Bool.not_true, Bool.not_false, Bool.xor_false, Bool.false_xor, Bool.true_xor, Bool.xor_true, and_self, true_and, and_true]
  refine (g8 n4 ⟨#[97]⟩).mono ?_
  rintro r H6 ⟨rfl, rfl⟩
  have hw : nwhose (List.eraseIdx [(⟨⟨#[97]⟩, 1, 0, 0⟩ : Rec)] 0) ⟨#[97]⟩ = .tup [.int .i64 0, .bool false] := rfl
  simp only [DO_nil, DO_cons, OR'_nil, OR'_cons, onW_t, onW_f, onN_v, onN_c, onN_a, onB_t, onB_f, wantedA, astep, Env.val, Env.vals, Env.put, Env.set, Env.get, envFrom, Env.keep, afaddr, aun, AVal.cells, Option.bind_eq_bind, Option.bind_some, Option.pure_def, Nat.reduceEqDiff, Nat.succ_ne_self, if_true, if_false, reduceIte, Option.map_some, List.drop_zero, List.drop_succ_cons, List.length_cons, List.length_nil, Nat.reduceAdd, Nat.reduceLeDiff, Nat.zero_le, Nat.le_refl, List.getElem?_cons_zero, List.getElem?_cons_succ, beq_self_eq_true, Bool.false_eq_true, aundef, Nat.zero_add, Nat.add_zero, Bool.not_true, Bool.not_false, Bool.xor_false, Bool.false_xor, Bool.true_xor, Bool.xor_true, and_self, true_and, and_true, hw]
  repeat' (first | refine DR.seq ?_ | refine DR.block ?_ | refine DR.skip ?_ | refine DR.inBlock ?_)
  refine DR.ops ?_
  simp only [r5_9, DO_nil, DO_cons, OR'_nil, OR'_cons, onW_t, onW_f, onN_v, onN_c, onN_a, onB_t, onB_f, wantedA, astep, Env.val, Env.vals, Env.put, Env.set, Env.get, envFrom, Env.keep, afaddr, aun, AVal.cells, Option.bind_eq_bind, Option.bind_some, Option.pure_def, Nat.reduceEqDiff, Nat.succ_ne_self, if_true, if_false, reduceIte, Option.map_some, List.drop_zero, List.drop_succ_cons, List.length_cons, List.length_nil, Nat.reduceAdd, Nat.reduceLeDiff, Nat.zero_le, Nat.le_refl, List.getElem?_cons_zero, List.getElem?_cons_succ, beq_self_eq_true, Bool.false_eq_true, aundef, Nat.zero_add, Nat.add_zero, Bool.not_true, Bool.not_false, Bool.xor_false, Bool.false_xor, Bool.true_xor, Bool.xor_true, and_self, true_and, and_true, abin, decide_true, Bool.true_beq, Bool.false_beq]
  refine DR.ret ⟨_, by simp [aresult, ares, Env.get] <;> rfl, rfl, ?_, fun i hi => ?_⟩
  · have := o1.1; have := o2.1; have := o3.1; have := o4.1; omega
  · rw [o4.2 i (by omega) (by omega), o3.2 i (by omega) (by omega), o2.2 i (by omega) (by omega), o1.2 i (by omega) (by omega), o0 i hi]
end Go.Am.Rn
