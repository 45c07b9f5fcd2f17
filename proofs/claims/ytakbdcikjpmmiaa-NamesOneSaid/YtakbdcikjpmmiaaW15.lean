import Derived.Test.YtakbdcikjpmmiaaW14
set_option linter.unusedVariables false
set_option linter.unusedSimpArgs false
namespace Go.Am.Rn
open Go.Proofs

/-- The registry alone. -/
structure Nam (H : AHeap) (n m1 m2 : Nat) (A : List Rec) (L : List (ByteArray × Int)) (c1 c2 : Nat) : Prop where
  nam : NamAt H n A 46 m1 m2 c1 c2
  same : Same A L
theorem Nam.push {H H' : AHeap} {n m1 m2 : Nat} {A : List Rec} {L : List (ByteArray × Int)} {c1 c2 : Nat} (h : Nam H n m1 m2 A L c1 c2) (hf : ∀ j, j < H.next → H'.get j = H.get j) : Nam H' n m1 m2 A L c1 c2 := ⟨h.nam.push hf, h.same⟩

def Stepped1 (H H' : AHeap) (n m1 m2 : Nat) (L : List (ByteArray × Int)) : Prop :=
  ∃ A' L' c1' c2', Nam H' n m1 m2 A' L' c1' c2' ∧ L'.length ≤ L.length + 1

theorem step1 {H : AHeap} {n r m1 m2 : Nat} {A : List Rec} {L : List (ByteArray × Int)} {c1 c2 : Nat} (h : Nam H n m1 m2 A L c1 c2) (hr0 : RefAt H r [] 30 .nils .nils) (hnr : n ≠ r) (k : Int) (s : ByteArray) (p : Int) :
    DCall Try.prog 7 [.ptr n 0, .ptr r 0, .agg [.int .i64 k, .str s, .int .i64 p]] H fun a H' => (∃ b, a = .bool b) ∧ Stepped1 H H' n m1 m2 L := by
  refine DCall.of_body (fn := Try.f7) (by kernel_rfl) c7 (by kernel_rfl) (by simp [f7]) ?_
  obtain ⟨H1, hH1⟩ : ∃ H1, H1 = H.push (.cells 32 [.int .i64 k, .str s, .int .i64 p]) := ⟨_, rfl⟩
  have f1 : ∀ j, j < H.next → H1.get j = H.get j := fun j hj => by rw [hH1, AHeap.get_push, if_neg (by omega)]
  have g1 : H1.get H.next = some (.cells 32 [.int .i64 k, .str s, .int .i64 p]) := by rw [hH1, AHeap.get_push, if_pos rfl]
  have n1 : H1.next = H.next + 1 := by rw [hH1]; rfl
  have hb := h.push f1
  have hr := hr0.frame f1
  have l0 := load_cell g1 (o := 0) (v := .int .i64 k) rfl
  have l1 := load_cell g1 (o := 1) (v := .str s) rfl
  have l2 := load_cell g1 (o := 2) (v := .int .i64 p) rfl
  have m1l := AHeap.get_lt h.nam.mp1
  have m2l := AHeap.get_lt h.nam.mp2
  unfold f7
  simp only []
  repeat' (first | refine DR.seq ?_ | refine DR.block ?_ | refine DR.skip ?_ | refine DR.inBlock ?_)
  refine DR.ops ?_
  simp only [r7_0, DO_nil, DO_cons, OR'_nil, OR'_cons, onW_t, onW_f, onN_v, onN_c, onN_a, onB_t, onB_f, wantedA, astep, Env.val, Env.vals, Env.put, Env.set, Env.get, envFrom, Env.keep, afaddr, aun, AVal.cells, Option.bind_eq_bind, Option.bind_some, Option.pure_def, Nat.reduceEqDiff, Nat.succ_ne_self, if_true, if_false, reduceIte, Option.map_some, List.drop_zero, List.drop_succ_cons, List.length_cons, List.length_nil, Nat.reduceAdd, Nat.reduceLeDiff, Nat.zero_le, Nat.le_refl, List.getElem?_cons_zero, List.getElem?_cons_succ, beq_self_eq_true, Bool.false_eq_true, aundef, Nat.zero_add, Nat.add_zero, Bool.not_true, Bool.not_false, Bool.xor_false, Bool.false_xor, Bool.true_xor, Bool.xor_true, and_self, true_and, and_true, ← hH1]
  repeat' (first | refine DR.seq ?_ | refine DR.block ?_ | refine DR.skip ?_ | refine DR.inBlock ?_)
  refine DR.ops ?_
  simp only [r7_1, DO_nil, DO_cons, OR'_nil, OR'_cons, onW_t, onW_f, onN_v, onN_c, onN_a, onB_t, onB_f, wantedA, astep, Env.val, Env.vals, Env.put, Env.set, Env.get, envFrom, Env.keep, afaddr, aun, AVal.cells, Option.bind_eq_bind, Option.bind_some, Option.pure_def, Nat.reduceEqDiff, Nat.succ_ne_self, if_true, if_false, reduceIte, Option.map_some, List.drop_zero, List.drop_succ_cons, List.length_cons, List.length_nil, Nat.reduceAdd, Nat.reduceLeDiff, Nat.zero_le, Nat.le_refl, List.getElem?_cons_zero, List.getElem?_cons_succ, beq_self_eq_true, Bool.false_eq_true, aundef, Nat.zero_add, Nat.add_zero, Bool.not_true, Bool.not_false, Bool.xor_false, Bool.false_xor, Bool.true_xor, Bool.xor_true, and_self, true_and, and_true, l0]
  repeat' (first | refine DR.seq ?_ | refine DR.block ?_ | refine DR.skip ?_ | refine DR.inBlock ?_)
  refine DR.ops ?_
  simp only [r7_2, DO_nil, DO_cons, OR'_nil, OR'_cons, onW_t, onW_f, onN_v, onN_c, onN_a, onB_t, onB_f, wantedA, astep, Env.val, Env.vals, Env.put, Env.set, Env.get, envFrom, Env.keep, afaddr, aun, AVal.cells, Option.bind_eq_bind, Option.bind_some, Option.pure_def, Nat.reduceEqDiff, Nat.succ_ne_self, if_true, if_false, reduceIte, Option.map_some, List.drop_zero, List.drop_succ_cons, List.length_cons, List.length_nil, Nat.reduceAdd, Nat.reduceLeDiff, Nat.zero_le, Nat.le_refl, List.getElem?_cons_zero, List.getElem?_cons_succ, beq_self_eq_true, Bool.false_eq_true, aundef, Nat.zero_add, Nat.add_zero, Bool.not_true, Bool.not_false, Bool.xor_false, Bool.false_xor, Bool.true_xor, Bool.xor_true, and_self, true_and, and_true, abin]
  cases k1 : k == 1 with
  | true =>
    refine DR.yes rfl ?_
    repeat' (first | refine DR.seq ?_ | refine DR.block ?_ | refine DR.skip ?_ | refine DR.inBlock ?_)
    refine DR.draw (by kernel_rfl) d7_3 ?_
    simp only [r7_3, m7_3, DO_nil, DO_cons, OR'_nil, OR'_cons, onW_t, onW_f, onN_v, onN_c, onN_a, onB_t, onB_f, wantedA, astep, Env.val, Env.vals, Env.put, Env.set, Env.get, envFrom, Env.keep, afaddr, aun, AVal.cells, Option.bind_eq_bind, Option.bind_some, Option.pure_def, Nat.reduceEqDiff, Nat.succ_ne_self, if_true, if_false, reduceIte, Option.map_some, List.drop_zero, List.drop_succ_cons, List.length_cons, List.length_nil, Nat.reduceAdd, Nat.reduceLeDiff, Nat.zero_le, Nat.le_refl, List.getElem?_cons_zero, List.getElem?_cons_succ, beq_self_eq_true, Bool.false_eq_true, aundef, Nat.zero_add, Nat.add_zero, Bool.not_true, Bool.not_false, Bool.xor_false, Bool.false_xor, Bool.true_xor, Bool.xor_true, and_self, true_and, and_true, DS_nil, DS_cons, seesAll, staysAll, abit, List.getD_cons_zero, List.getD_cons_succ, AOp.quiet, AOp.reads, true_and, and_true, Nat.reducePow, Nat.reduceDiv, Nat.reduceMod, decide_true, decide_false, Nat.reduceEqDiff, reduceCtorEq, and_self, Nat.reduceBEq, l1, l2]
    refine (g13 hb.nam s p).mono ?_
    rintro a H2 ⟨o2, q2⟩
    have hr2 := hr.maps hb.nam.mp1 hb.nam.mp2 o2
    have g2 : H2.get H.next = some (.cells 32 [.int .i64 k, .str s, .int .i64 p]) := (o2.2 _ (by omega) (by omega)).trans g1
    have l1' := load_cell g2 (o := 1) (v := .str s) rfl
    have l2' := load_cell g2 (o := 2) (v := .int .i64 p) rfl
    simp only [DO_nil, DO_cons, OR'_nil, OR'_cons, onW_t, onW_f, onN_v, onN_c, onN_a, onB_t, onB_f, wantedA, astep, Env.val, Env.vals, Env.put, Env.set, Env.get, envFrom, Env.keep, afaddr, aun, AVal.cells, Option.bind_eq_bind, Option.bind_some, Option.pure_def, Nat.reduceEqDiff, Nat.succ_ne_self, if_true, if_false, reduceIte, Option.map_some, List.drop_zero, List.drop_succ_cons, List.length_cons, List.length_nil, Nat.reduceAdd, Nat.reduceLeDiff, Nat.zero_le, Nat.le_refl, List.getElem?_cons_zero, List.getElem?_cons_succ, beq_self_eq_true, Bool.false_eq_true, aundef, Nat.zero_add, Nat.add_zero, Bool.not_true, Bool.not_false, Bool.xor_false, Bool.false_xor, Bool.true_xor, Bool.xor_true, and_self, true_and, and_true, DS_nil, DS_cons, seesAll, staysAll, abit, List.getD_cons_zero, List.getD_cons_succ, AOp.quiet, AOp.reads, true_and, and_true, Nat.reducePow, Nat.reduceDiv, Nat.reduceMod, decide_true, decide_false, Nat.reduceEqDiff, reduceCtorEq, and_self, Nat.reduceBEq, l1, l2, l1', l2']
    refine (g15 hr2 s p (by simp)).mono ?_
    rintro b H3 ⟨q3, n3, f3⟩
    obtain ⟨z, rfl⟩ : ∃ z, b = .int .i64 z := by
      split at q3
      · exact ⟨_, q3.1⟩
      · exact ⟨_, q3.1⟩
    cases hbad : (badName s || (look1 s A 0).isSome || (look2 p A 0).isSome || decide (p < 1)) with
    | true =>
      rw [if_pos hbad] at q2
      obtain ⟨rfl, q2⟩ := q2
      simp only [DO_nil, DO_cons, OR'_nil, OR'_cons, onW_t, onW_f, onN_v, onN_c, onN_a, onB_t, onB_f, wantedA, astep, Env.val, Env.vals, Env.put, Env.set, Env.get, envFrom, Env.keep, afaddr, aun, AVal.cells, Option.bind_eq_bind, Option.bind_some, Option.pure_def, Nat.reduceEqDiff, Nat.succ_ne_self, if_true, if_false, reduceIte, Option.map_some, List.drop_zero, List.drop_succ_cons, List.length_cons, List.length_nil, Nat.reduceAdd, Nat.reduceLeDiff, Nat.zero_le, Nat.le_refl, List.getElem?_cons_zero, List.getElem?_cons_succ, beq_self_eq_true, Bool.false_eq_true, aundef, Nat.zero_add, Nat.add_zero, Bool.not_true, Bool.not_false, Bool.xor_false, Bool.false_xor, Bool.true_xor, Bool.xor_true, and_self, true_and, and_true, DS_nil, DS_cons, seesAll, staysAll, abit, List.getD_cons_zero, List.getD_cons_succ, AOp.quiet, AOp.reads, true_and, and_true, Nat.reducePow, Nat.reduceDiv, Nat.reduceMod, decide_true, decide_false, Nat.reduceEqDiff, reduceCtorEq, and_self, Nat.reduceBEq, abin]
      exact DR.ret ⟨_, by simp [aresult, ares, Env.get] <;> rfl, ⟨_, rfl⟩, A, L, c1, c2, ⟨q2.frame hr2.blk hnr f3, h.same⟩, by omega⟩
    | false =>
      rw [if_neg (by rw [hbad]; simp)] at q2
      obtain ⟨rfl, q2⟩ := q2
      simp only [DO_nil, DO_cons, OR'_nil, OR'_cons, onW_t, onW_f, onN_v, onN_c, onN_a, onB_t, onB_f, wantedA, astep, Env.val, Env.vals, Env.put, Env.set, Env.get, envFrom, Env.keep, afaddr, aun, AVal.cells, Option.bind_eq_bind, Option.bind_some, Option.pure_def, Nat.reduceEqDiff, Nat.succ_ne_self, if_true, if_false, reduceIte, Option.map_some, List.drop_zero, List.drop_succ_cons, List.length_cons, List.length_nil, Nat.reduceAdd, Nat.reduceLeDiff, Nat.zero_le, Nat.le_refl, List.getElem?_cons_zero, List.getElem?_cons_succ, beq_self_eq_true, Bool.false_eq_true, aundef, Nat.zero_add, Nat.add_zero, Bool.not_true, Bool.not_false, Bool.xor_false, Bool.false_xor, Bool.true_xor, Bool.xor_true, and_self, true_and, and_true, DS_nil, DS_cons, seesAll, staysAll, abit, List.getD_cons_zero, List.getD_cons_succ, AOp.quiet, AOp.reads, true_and, and_true, Nat.reducePow, Nat.reduceDiv, Nat.reduceMod, decide_true, decide_false, Nat.reduceEqDiff, reduceCtorEq, and_self, Nat.reduceBEq, abin]
      simp only [Bool.or_eq_false_iff] at hbad
      obtain ⟨⟨⟨b1, b2⟩, b3⟩, b4⟩ := hbad
      have hl1 : look1 s A 0 = none := by cases hh : look1 s A 0 with
        | none => rfl
        | some _ => rw [hh] at b2; cases b2
      have hl2 : look2 p A 0 = none := by cases hh : look2 p A 0 with
        | none => rfl
        | some _ => rw [hh] at b3; cases b3
      have hp : 1 ≤ p := by simp at b4; omega
      exact DR.ret ⟨_, by simp [aresult, ares, Env.get] <;> rfl, ⟨_, rfl⟩, _, _, _, _, ⟨q2.frame hr2.blk hnr f3, h.same.more b1 hl1 hl2 hp⟩, by simp only [insertAt, List.length_append, List.length_take, List.length_drop, List.length_singleton]; omega⟩
  | false =>
    refine DR.no rfl ?_
    repeat' (first | refine DR.seq ?_ | refine DR.block ?_ | refine DR.skip ?_ | refine DR.inBlock ?_)
    refine DR.ops ?_
    simp only [r7_4, DO_nil, DO_cons, OR'_nil, OR'_cons, onW_t, onW_f, onN_v, onN_c, onN_a, onB_t, onB_f, wantedA, astep, Env.val, Env.vals, Env.put, Env.set, Env.get, envFrom, Env.keep, afaddr, aun, AVal.cells, Option.bind_eq_bind, Option.bind_some, Option.pure_def, Nat.reduceEqDiff, Nat.succ_ne_self, if_true, if_false, reduceIte, Option.map_some, List.drop_zero, List.drop_succ_cons, List.length_cons, List.length_nil, Nat.reduceAdd, Nat.reduceLeDiff, Nat.zero_le, Nat.le_refl, List.getElem?_cons_zero, List.getElem?_cons_succ, beq_self_eq_true, Bool.false_eq_true, aundef, Nat.zero_add, Nat.add_zero, Bool.not_true, Bool.not_false, Bool.xor_false, Bool.false_xor, Bool.true_xor, Bool.xor_true, and_self, true_and, and_true, abin]
    cases k2 : k == 2 with
    | true =>
      refine DR.yes rfl ?_
      repeat' (first | refine DR.seq ?_ | refine DR.block ?_ | refine DR.skip ?_ | refine DR.inBlock ?_)
      refine DR.draw (by kernel_rfl) d7_5 ?_
      simp only [r7_5, m7_5, DO_nil, DO_cons, OR'_nil, OR'_cons, onW_t, onW_f, onN_v, onN_c, onN_a, onB_t, onB_f, wantedA, astep, Env.val, Env.vals, Env.put, Env.set, Env.get, envFrom, Env.keep, afaddr, aun, AVal.cells, Option.bind_eq_bind, Option.bind_some, Option.pure_def, Nat.reduceEqDiff, Nat.succ_ne_self, if_true, if_false, reduceIte, Option.map_some, List.drop_zero, List.drop_succ_cons, List.length_cons, List.length_nil, Nat.reduceAdd, Nat.reduceLeDiff, Nat.zero_le, Nat.le_refl, List.getElem?_cons_zero, List.getElem?_cons_succ, beq_self_eq_true, Bool.false_eq_true, aundef, Nat.zero_add, Nat.add_zero, Bool.not_true, Bool.not_false, Bool.xor_false, Bool.false_xor, Bool.true_xor, Bool.xor_true, and_self, true_and, and_true, DS_nil, DS_cons, seesAll, staysAll, abit, List.getD_cons_zero, List.getD_cons_succ, AOp.quiet, AOp.reads, true_and, and_true, Nat.reducePow, Nat.reduceDiv, Nat.reduceMod, decide_true, decide_false, Nat.reduceEqDiff, reduceCtorEq, and_self, Nat.reduceBEq, l1]
      refine (g16 hb.nam h.same.pds s).mono ?_
      rintro a H2 ⟨o2, q2⟩
      have hr2 := hr.maps hb.nam.mp1 hb.nam.mp2 o2
      have g2 : H2.get H.next = some (.cells 32 [.int .i64 k, .str s, .int .i64 p]) := (o2.2 _ (by omega) (by omega)).trans g1
      have l1' := load_cell g2 (o := 1) (v := .str s) rfl
      simp only [DO_nil, DO_cons, OR'_nil, OR'_cons, onW_t, onW_f, onN_v, onN_c, onN_a, onB_t, onB_f, wantedA, astep, Env.val, Env.vals, Env.put, Env.set, Env.get, envFrom, Env.keep, afaddr, aun, AVal.cells, Option.bind_eq_bind, Option.bind_some, Option.pure_def, Nat.reduceEqDiff, Nat.succ_ne_self, if_true, if_false, reduceIte, Option.map_some, List.drop_zero, List.drop_succ_cons, List.length_cons, List.length_nil, Nat.reduceAdd, Nat.reduceLeDiff, Nat.zero_le, Nat.le_refl, List.getElem?_cons_zero, List.getElem?_cons_succ, beq_self_eq_true, Bool.false_eq_true, aundef, Nat.zero_add, Nat.add_zero, Bool.not_true, Bool.not_false, Bool.xor_false, Bool.false_xor, Bool.true_xor, Bool.xor_true, and_self, true_and, and_true, DS_nil, DS_cons, seesAll, staysAll, abit, List.getD_cons_zero, List.getD_cons_succ, AOp.quiet, AOp.reads, true_and, and_true, Nat.reducePow, Nat.reduceDiv, Nat.reduceMod, decide_true, decide_false, Nat.reduceEqDiff, reduceCtorEq, and_self, Nat.reduceBEq, l1, l1']
      refine (g17 hr2 s).mono ?_
      rintro b H3 ⟨q3, n3, f3⟩
      simp only [List.findIdx?_nil] at q3
      obtain ⟨rfl, q3⟩ := q3
      rcases h.same.find1 s with ⟨e1, e2⟩ | ⟨i, ra, j, e1, e2, e3, e4⟩
      · simp only [e1] at q2
        obtain ⟨rfl, q2⟩ := q2
        simp only [DO_nil, DO_cons, OR'_nil, OR'_cons, onW_t, onW_f, onN_v, onN_c, onN_a, onB_t, onB_f, wantedA, astep, Env.val, Env.vals, Env.put, Env.set, Env.get, envFrom, Env.keep, afaddr, aun, AVal.cells, Option.bind_eq_bind, Option.bind_some, Option.pure_def, Nat.reduceEqDiff, Nat.succ_ne_self, if_true, if_false, reduceIte, Option.map_some, List.drop_zero, List.drop_succ_cons, List.length_cons, List.length_nil, Nat.reduceAdd, Nat.reduceLeDiff, Nat.zero_le, Nat.le_refl, List.getElem?_cons_zero, List.getElem?_cons_succ, beq_self_eq_true, Bool.false_eq_true, aundef, Nat.zero_add, Nat.add_zero, Bool.not_true, Bool.not_false, Bool.xor_false, Bool.false_xor, Bool.true_xor, Bool.xor_true, and_self, true_and, and_true, DS_nil, DS_cons, seesAll, staysAll, abit, List.getD_cons_zero, List.getD_cons_succ, AOp.quiet, AOp.reads, true_and, and_true, Nat.reducePow, Nat.reduceDiv, Nat.reduceMod, decide_true, decide_false, Nat.reduceEqDiff, reduceCtorEq, and_self, Nat.reduceBEq, abin]
        exact DR.ret ⟨_, by simp [aresult, ares, Env.get] <;> rfl, ⟨_, rfl⟩, A, L, c1, c2, ⟨q2.frame hr2.blk hnr f3, h.same⟩, by omega⟩
      · simp only [e1] at q2
        obtain ⟨rfl, q2⟩ := q2
        simp only [DO_nil, DO_cons, OR'_nil, OR'_cons, onW_t, onW_f, onN_v, onN_c, onN_a, onB_t, onB_f, wantedA, astep, Env.val, Env.vals, Env.put, Env.set, Env.get, envFrom, Env.keep, afaddr, aun, AVal.cells, Option.bind_eq_bind, Option.bind_some, Option.pure_def, Nat.reduceEqDiff, Nat.succ_ne_self, if_true, if_false, reduceIte, Option.map_some, List.drop_zero, List.drop_succ_cons, List.length_cons, List.length_nil, Nat.reduceAdd, Nat.reduceLeDiff, Nat.zero_le, Nat.le_refl, List.getElem?_cons_zero, List.getElem?_cons_succ, beq_self_eq_true, Bool.false_eq_true, aundef, Nat.zero_add, Nat.add_zero, Bool.not_true, Bool.not_false, Bool.xor_false, Bool.false_xor, Bool.true_xor, Bool.xor_true, and_self, true_and, and_true, DS_nil, DS_cons, seesAll, staysAll, abit, List.getD_cons_zero, List.getD_cons_succ, AOp.quiet, AOp.reads, true_and, and_true, Nat.reducePow, Nat.reduceDiv, Nat.reduceMod, decide_true, decide_false, Nat.reduceEqDiff, reduceCtorEq, and_self, Nat.reduceBEq, abin]
        exact DR.ret ⟨_, by simp [aresult, ares, Env.get] <;> rfl, ⟨_, rfl⟩, _, _, _, _, ⟨q2.frame hr2.blk hnr f3, h.same.gone e3 e4⟩, by rw [List.length_eraseIdx]; split <;> omega⟩
    | false =>
      refine DR.no rfl ?_
      repeat' (first | refine DR.seq ?_ | refine DR.block ?_ | refine DR.skip ?_ | refine DR.inBlock ?_)
      refine DR.ops ?_
      simp only [r7_6, DO_nil, DO_cons, OR'_nil, OR'_cons, onW_t, onW_f, onN_v, onN_c, onN_a, onB_t, onB_f, wantedA, astep, Env.val, Env.vals, Env.put, Env.set, Env.get, envFrom, Env.keep, afaddr, aun, AVal.cells, Option.bind_eq_bind, Option.bind_some, Option.pure_def, Nat.reduceEqDiff, Nat.succ_ne_self, if_true, if_false, reduceIte, Option.map_some, List.drop_zero, List.drop_succ_cons, List.length_cons, List.length_nil, Nat.reduceAdd, Nat.reduceLeDiff, Nat.zero_le, Nat.le_refl, List.getElem?_cons_zero, List.getElem?_cons_succ, beq_self_eq_true, Bool.false_eq_true, aundef, Nat.zero_add, Nat.add_zero, Bool.not_true, Bool.not_false, Bool.xor_false, Bool.false_xor, Bool.true_xor, Bool.xor_true, and_self, true_and, and_true, abin]
      cases k3 : k == 3 with
      | true =>
        refine DR.yes rfl ?_
        repeat' (first | refine DR.seq ?_ | refine DR.block ?_ | refine DR.skip ?_ | refine DR.inBlock ?_)
        refine DR.draw (by kernel_rfl) d7_7 ?_
        simp only [r7_7, m7_7, DO_nil, DO_cons, OR'_nil, OR'_cons, onW_t, onW_f, onN_v, onN_c, onN_a, onB_t, onB_f, wantedA, astep, Env.val, Env.vals, Env.put, Env.set, Env.get, envFrom, Env.keep, afaddr, aun, AVal.cells, Option.bind_eq_bind, Option.bind_some, Option.pure_def, Nat.reduceEqDiff, Nat.succ_ne_self, if_true, if_false, reduceIte, Option.map_some, List.drop_zero, List.drop_succ_cons, List.length_cons, List.length_nil, Nat.reduceAdd, Nat.reduceLeDiff, Nat.zero_le, Nat.le_refl, List.getElem?_cons_zero, List.getElem?_cons_succ, beq_self_eq_true, Bool.false_eq_true, aundef, Nat.zero_add, Nat.add_zero, Bool.not_true, Bool.not_false, Bool.xor_false, Bool.false_xor, Bool.true_xor, Bool.xor_true, and_self, true_and, and_true, DS_nil, DS_cons, seesAll, staysAll, abit, List.getD_cons_zero, List.getD_cons_succ, AOp.quiet, AOp.reads, true_and, and_true, Nat.reducePow, Nat.reduceDiv, Nat.reduceMod, decide_true, decide_false, Nat.reduceEqDiff, reduceCtorEq, and_self, Nat.reduceBEq, l2]
        refine (g14 hb.nam h.same.pds h.same.nms p).mono ?_
        rintro a H2 ⟨o2, q2⟩
        have hr2 := hr.maps hb.nam.mp1 hb.nam.mp2 o2
        have g2 : H2.get H.next = some (.cells 32 [.int .i64 k, .str s, .int .i64 p]) := (o2.2 _ (by omega) (by omega)).trans g1
        have l2' := load_cell g2 (o := 2) (v := .int .i64 p) rfl
        simp only [DO_nil, DO_cons, OR'_nil, OR'_cons, onW_t, onW_f, onN_v, onN_c, onN_a, onB_t, onB_f, wantedA, astep, Env.val, Env.vals, Env.put, Env.set, Env.get, envFrom, Env.keep, afaddr, aun, AVal.cells, Option.bind_eq_bind, Option.bind_some, Option.pure_def, Nat.reduceEqDiff, Nat.succ_ne_self, if_true, if_false, reduceIte, Option.map_some, List.drop_zero, List.drop_succ_cons, List.length_cons, List.length_nil, Nat.reduceAdd, Nat.reduceLeDiff, Nat.zero_le, Nat.le_refl, List.getElem?_cons_zero, List.getElem?_cons_succ, beq_self_eq_true, Bool.false_eq_true, aundef, Nat.zero_add, Nat.add_zero, Bool.not_true, Bool.not_false, Bool.xor_false, Bool.false_xor, Bool.true_xor, Bool.xor_true, and_self, true_and, and_true, DS_nil, DS_cons, seesAll, staysAll, abit, List.getD_cons_zero, List.getD_cons_succ, AOp.quiet, AOp.reads, true_and, and_true, Nat.reducePow, Nat.reduceDiv, Nat.reduceMod, decide_true, decide_false, Nat.reduceEqDiff, reduceCtorEq, and_self, Nat.reduceBEq, l2, l2']
        refine (g18 hr2 p).mono ?_
        rintro b H3 ⟨q3, n3, f3⟩
        simp only [List.findIdx?_nil] at q3
        obtain ⟨rfl, q3⟩ := q3
        rcases h.same.find2 p with ⟨e1, e2⟩ | ⟨i, ra, j, e1, e2, e3, e4⟩
        · simp only [e1] at q2
          obtain ⟨rfl, q2⟩ := q2
          simp only [DO_nil, DO_cons, OR'_nil, OR'_cons, onW_t, onW_f, onN_v, onN_c, onN_a, onB_t, onB_f, wantedA, astep, Env.val, Env.vals, Env.put, Env.set, Env.get, envFrom, Env.keep, afaddr, aun, AVal.cells, Option.bind_eq_bind, Option.bind_some, Option.pure_def, Nat.reduceEqDiff, Nat.succ_ne_self, if_true, if_false, reduceIte, Option.map_some, List.drop_zero, List.drop_succ_cons, List.length_cons, List.length_nil, Nat.reduceAdd, Nat.reduceLeDiff, Nat.zero_le, Nat.le_refl, List.getElem?_cons_zero, List.getElem?_cons_succ, beq_self_eq_true, Bool.false_eq_true, aundef, Nat.zero_add, Nat.add_zero, Bool.not_true, Bool.not_false, Bool.xor_false, Bool.false_xor, Bool.true_xor, Bool.xor_true, and_self, true_and, and_true, DS_nil, DS_cons, seesAll, staysAll, abit, List.getD_cons_zero, List.getD_cons_succ, AOp.quiet, AOp.reads, true_and, and_true, Nat.reducePow, Nat.reduceDiv, Nat.reduceMod, decide_true, decide_false, Nat.reduceEqDiff, reduceCtorEq, and_self, Nat.reduceBEq, abin]
          exact DR.ret ⟨_, by simp [aresult, ares, Env.get] <;> rfl, ⟨_, rfl⟩, A, L, c1, c2, ⟨q2.frame hr2.blk hnr f3, h.same⟩, by omega⟩
        · simp only [e1] at q2
          obtain ⟨rfl, q2⟩ := q2
          simp only [DO_nil, DO_cons, OR'_nil, OR'_cons, onW_t, onW_f, onN_v, onN_c, onN_a, onB_t, onB_f, wantedA, astep, Env.val, Env.vals, Env.put, Env.set, Env.get, envFrom, Env.keep, afaddr, aun, AVal.cells, Option.bind_eq_bind, Option.bind_some, Option.pure_def, Nat.reduceEqDiff, Nat.succ_ne_self, if_true, if_false, reduceIte, Option.map_some, List.drop_zero, List.drop_succ_cons, List.length_cons, List.length_nil, Nat.reduceAdd, Nat.reduceLeDiff, Nat.zero_le, Nat.le_refl, List.getElem?_cons_zero, List.getElem?_cons_succ, beq_self_eq_true, Bool.false_eq_true, aundef, Nat.zero_add, Nat.add_zero, Bool.not_true, Bool.not_false, Bool.xor_false, Bool.false_xor, Bool.true_xor, Bool.xor_true, and_self, true_and, and_true, DS_nil, DS_cons, seesAll, staysAll, abit, List.getD_cons_zero, List.getD_cons_succ, AOp.quiet, AOp.reads, true_and, and_true, Nat.reducePow, Nat.reduceDiv, Nat.reduceMod, decide_true, decide_false, Nat.reduceEqDiff, reduceCtorEq, and_self, Nat.reduceBEq, abin]
          exact DR.ret ⟨_, by simp [aresult, ares, Env.get] <;> rfl, ⟨_, rfl⟩, _, _, _, _, ⟨q2.frame hr2.blk hnr f3, h.same.gone e3 e4⟩, by rw [List.length_eraseIdx]; split <;> omega⟩
      | false =>
        refine DR.no rfl ?_
        repeat' (first | refine DR.seq ?_ | refine DR.block ?_ | refine DR.skip ?_ | refine DR.inBlock ?_)
        refine DR.ops ?_
        simp only [r7_8, DO_nil, DO_cons, OR'_nil, OR'_cons, onW_t, onW_f, onN_v, onN_c, onN_a, onB_t, onB_f, wantedA, astep, Env.val, Env.vals, Env.put, Env.set, Env.get, envFrom, Env.keep, afaddr, aun, AVal.cells, Option.bind_eq_bind, Option.bind_some, Option.pure_def, Nat.reduceEqDiff, Nat.succ_ne_self, if_true, if_false, reduceIte, Option.map_some, List.drop_zero, List.drop_succ_cons, List.length_cons, List.length_nil, Nat.reduceAdd, Nat.reduceLeDiff, Nat.zero_le, Nat.le_refl, List.getElem?_cons_zero, List.getElem?_cons_succ, beq_self_eq_true, Bool.false_eq_true, aundef, Nat.zero_add, Nat.add_zero, Bool.not_true, Bool.not_false, Bool.xor_false, Bool.false_xor, Bool.true_xor, Bool.xor_true, and_self, true_and, and_true]
        exact DR.ret ⟨_, by simp [aresult, ares, Env.get] <;> rfl, ⟨_, rfl⟩, A, L, c1, c2, hb, by omega⟩

/-- One round of the play. -/
theorem round4 {H : AHeap} {x : AVal} {l : List ActT} (hp : Play x l) (hl1000 : l.length ≤ 1000) {n m1 m2 : Nat} {A : List Rec} {L : List (ByteArray × Int)} {c1 c2 : Nat} (h : Nam H n m1 m2 A L c1 c2) {i : Nat} {a : ActT} (hi : l[i]? = some a) {k : List AItem} {Q : Env → AHeap → Prop}
    (hgo : ∀ A' L' c1' c2' H', Nam H' n m1 m2 A' L' c1' c2' → L'.length ≤ L.length + 1 → DR Try.prog (kof k4) 150 (.inLoop l4_0 :: k) [(0, x), (3, .ptr n 0), (4, .int .i64 ((i + 1 : Nat) : Int))] H' Q) :
    DR Try.prog (kof k4) 150 (.code l4_0 :: .inLoop l4_0 :: k) [(0, x), (3, .ptr n 0), (4, .int .i64 (i : Int))] H Q := by
  obtain ⟨y, hy, hld⟩ := hp.at_ i a hi
  obtain ⟨ak, nm, ap⟩ := a
  have hil : i < l.length := (List.getElem?_eq_some_iff.mp hi).1
  have hl := hp.len
  have hcmp : decide ((i : Int) < (l.length : Int)) = true := by simp; omega
  repeat' (first | refine DR.seq ?_ | refine DR.block ?_ | refine DR.skip ?_ | refine DR.inBlock ?_)
  refine DR.ops ?_
  simp only [r4_9, DO_nil, DO_cons, OR'_nil, OR'_cons, onW_t, onW_f, onN_v, onN_c, onN_a, onB_t, onB_f, wantedA, astep, Env.val, Env.vals, Env.put, Env.set, Env.get, envFrom, Env.keep, afaddr, aun, AVal.cells, Option.bind_eq_bind, Option.bind_some, Option.pure_def, Nat.reduceEqDiff, Nat.succ_ne_self, if_true, if_false, reduceIte, Option.map_some, List.drop_zero, List.drop_succ_cons, List.length_cons, List.length_nil, Nat.reduceAdd, Nat.reduceLeDiff, Nat.zero_le, Nat.le_refl, List.getElem?_cons_zero, List.getElem?_cons_succ, beq_self_eq_true, Bool.false_eq_true, aundef, Nat.zero_add, Nat.add_zero, Bool.not_true, Bool.not_false, Bool.xor_false, Bool.false_xor, Bool.true_xor, Bool.xor_true, and_self, true_and, and_true, hl, abin, hcmp]
  refine DR.yes rfl ?_
  repeat' (first | refine DR.seq ?_ | refine DR.block ?_ | refine DR.skip ?_ | refine DR.inBlock ?_)
  refine DR.ops ?_
  obtain ⟨H1, hH1⟩ : ∃ H1, H1 = H.push (.cells 30 [.nils, .nils]) := ⟨_, rfl⟩
  have g1 : H1.get H.next = some (.cells 30 [.nils, .nils]) := by rw [hH1, AHeap.get_push, if_pos rfl]
  have f1 : ∀ j, j < H.next → H1.get j = H.get j := fun j hj => by rw [hH1, AHeap.get_push, if_neg (by omega)]
  have hnl := AHeap.get_lt h.nam.blk
  simp only [actCells] at hld
  simp only [r4_11, DO_nil, DO_cons, OR'_nil, OR'_cons, onW_t, onW_f, onN_v, onN_c, onN_a, onB_t, onB_f, wantedA, astep, Env.val, Env.vals, Env.put, Env.set, Env.get, envFrom, Env.keep, afaddr, aun, AVal.cells, Option.bind_eq_bind, Option.bind_some, Option.pure_def, Nat.reduceEqDiff, Nat.succ_ne_self, if_true, if_false, reduceIte, Option.map_some, List.drop_zero, List.drop_succ_cons, List.length_cons, List.length_nil, Nat.reduceAdd, Nat.reduceLeDiff, Nat.zero_le, Nat.le_refl, List.getElem?_cons_zero, List.getElem?_cons_succ, beq_self_eq_true, Bool.false_eq_true, aundef, Nat.zero_add, Nat.add_zero, Bool.not_true, Bool.not_false, Bool.xor_false, Bool.false_xor, Bool.true_xor, Bool.xor_true, and_self, true_and, and_true, Env.parts, afill, AVal.cells, ← hH1, hy, hld]
  refine (step1 (h.push f1) (refNew g1) (by omega) ak nm ap).mono ?_
  rintro b H2 ⟨⟨b0, rfl⟩, A', L', c1', c2', hb2, hle⟩
  simp only [DO_nil, DO_cons, OR'_nil, OR'_cons, onW_t, onW_f, onN_v, onN_c, onN_a, onB_t, onB_f, wantedA, astep, Env.val, Env.vals, Env.put, Env.set, Env.get, envFrom, Env.keep, afaddr, aun, AVal.cells, Option.bind_eq_bind, Option.bind_some, Option.pure_def, Nat.reduceEqDiff, Nat.succ_ne_self, if_true, if_false, reduceIte, Option.map_some, List.drop_zero, List.drop_succ_cons, List.length_cons, List.length_nil, Nat.reduceAdd, Nat.reduceLeDiff, Nat.zero_le, Nat.le_refl, List.getElem?_cons_zero, List.getElem?_cons_succ, beq_self_eq_true, Bool.false_eq_true, aundef, Nat.zero_add, Nat.add_zero, Bool.not_true, Bool.not_false, Bool.xor_false, Bool.false_xor, Bool.true_xor, Bool.xor_true, and_self, true_and, and_true]
  repeat' (first | refine DR.seq ?_ | refine DR.block ?_ | refine DR.skip ?_ | refine DR.inBlock ?_)
  refine DR.ops ?_
  have hw : IntKind.i64.wrap ((i : Int) + 1) = ((i + 1 : Nat) : Int) := wrap64 (n := i + 1) (by omega)
  simp only [r4_10, DO_nil, DO_cons, OR'_nil, OR'_cons, onW_t, onW_f, onN_v, onN_c, onN_a, onB_t, onB_f, wantedA, astep, Env.val, Env.vals, Env.put, Env.set, Env.get, envFrom, Env.keep, afaddr, aun, AVal.cells, Option.bind_eq_bind, Option.bind_some, Option.pure_def, Nat.reduceEqDiff, Nat.succ_ne_self, if_true, if_false, reduceIte, Option.map_some, List.drop_zero, List.drop_succ_cons, List.length_cons, List.length_nil, Nat.reduceAdd, Nat.reduceLeDiff, Nat.zero_le, Nat.le_refl, List.getElem?_cons_zero, List.getElem?_cons_succ, beq_self_eq_true, Bool.false_eq_true, aundef, Nat.zero_add, Nat.add_zero, Bool.not_true, Bool.not_false, Bool.xor_false, Bool.false_xor, Bool.true_xor, Bool.xor_true, and_self, true_and, and_true, abin, hw]
  exact hgo _ _ _ _ _ hb2 hle

/-- All rounds. -/
theorem rounds4 {x : AVal} {l : List ActT} (hp : Play x l) (hl1000 : l.length ≤ 1000) {n m1 m2 : Nat} {k k' : List AItem} {Q : Env → AHeap → Prop} (hk : aexitTo 0 k = some k')
    (hend : ∀ A' L' c1' c2' H', Nam H' n m1 m2 A' L' c1' c2' → L'.length ≤ 1000 → DR Try.prog (kof k4) 150 k' [(0, x), (3, .ptr n 0)] H' Q) :
    ∀ (d i : Nat) (A : List Rec) (L : List (ByteArray × Int)) (c1 c2 : Nat) (H : AHeap), i + d = l.length → L.length ≤ i → Nam H n m1 m2 A L c1 c2 → DR Try.prog (kof k4) 150 (.code l4_0 :: .inLoop l4_0 :: k) [(0, x), (3, .ptr n 0), (4, .int .i64 (i : Int))] H Q := by
  intro d
  induction d with
  | zero =>
    intro i A L c1 c2 H hi hL hb
    obtain rfl : i = l.length := by omega
    have hl := hp.len
    repeat' (first | refine DR.seq ?_ | refine DR.block ?_ | refine DR.skip ?_ | refine DR.inBlock ?_)
    refine DR.ops ?_
    simp only [r4_9, DO_nil, DO_cons, OR'_nil, OR'_cons, onW_t, onW_f, onN_v, onN_c, onN_a, onB_t, onB_f, wantedA, astep, Env.val, Env.vals, Env.put, Env.set, Env.get, envFrom, Env.keep, afaddr, aun, AVal.cells, Option.bind_eq_bind, Option.bind_some, Option.pure_def, Nat.reduceEqDiff, Nat.succ_ne_self, if_true, if_false, reduceIte, Option.map_some, List.drop_zero, List.drop_succ_cons, List.length_cons, List.length_nil, Nat.reduceAdd, Nat.reduceLeDiff, Nat.zero_le, Nat.le_refl, List.getElem?_cons_zero, List.getElem?_cons_succ, beq_self_eq_true, Bool.false_eq_true, aundef, Nat.zero_add, Nat.add_zero, Bool.not_true, Bool.not_false, Bool.xor_false, Bool.false_xor, Bool.true_xor, Bool.xor_true, and_self, true_and, and_true, hl, abin, Int.lt_irrefl, decide_false]
    refine DR.no rfl ?_
    refine DR.exit (k' := k') (by simpa [aexitTo] using hk) ?_
    refine DR.only [0, 3] ?_
    exact hend _ _ _ _ _ hb (by omega)
  | succ d ih =>
    intro i A L c1 c2 H hi hL hb
    have hlt : i < l.length := by omega
    refine round4 hp hl1000 hb (List.getElem?_eq_getElem hlt) fun A' L' c1' c2' H' hb' hle => ?_
    refine DR.inLoop ?_
    exact ih (i + 1) A' L' c1' c2' H' (by omega) (by omega) hb'
end Go.Am.Rn
