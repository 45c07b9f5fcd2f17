import Derived.Test.YtakbdcikjpmmiaaW8
set_option linter.unusedVariables false
set_option linter.unusedSimpArgs false
namespace Go.Am.Rn
open Go.Proofs

/-- Both registries, in the blocks. -/
structure Both (H : AHeap) (n r m1 m2 : Nat) (A : List Rec) (L : List (ByteArray × Int)) (c1 c2 : Nat) : Prop where
  nam : NamAt H n A 46 m1 m2 c1 c2
  ref : ∃ x y, RefAt H r L 30 x y
  same : Same A L
  ne : n ≠ r

theorem cells_ne_map {H : AHeap} {i j : Nat} {e : TypeId} {cs : List AVal} {es : List AEntry} {c : Nat} (h1 : H.get i = some (.cells e cs)) (h2 : H.get j = some (.map es c)) : i ≠ j := fun e => by
  rw [e, h2] at h1; cases h1
theorem Row.isCells {H : AHeap} {t : TypeId} {x : AVal} {vs : List AVal} (h : Row H t x vs) {id : Nat} (hid : rid x = some id) : ∃ e cs, H.get id = some (.cells e cs) := by
  cases x with
  | sl id' off n c =>
    simp only [rid, Option.some.injEq] at hid
    subst hid
    have := h.cells
    simp only [sliceCells] at this
    split at this
    · rename_i hb; exact ⟨_, _, hb⟩
    · cases this
  | _ => simp [rid] at hid
theorem RefAt.maps {H H' : AHeap} {r : Nat} {L : List (ByteArray × Int)} {e : TypeId} {x y : AVal} (h : RefAt H r L e x y) {m1 m2 : Nat} {es1 es2 : List AEntry} {c1 c2 : Nat} (h1 : H.get m1 = some (.map es1 c1)) (h2 : H.get m2 = some (.map es2 c2)) (ho : Only H H' m1 m2) : RefAt H' r L e x y := by
  have key : ∀ id e cs, H.get id = some (.cells e cs) → H'.get id = H.get id := fun id e cs hc => ho.2 id (cells_ne_map hc h1) (cells_ne_map hc h2)
  refine ⟨(key r _ _ h.blk).trans h.blk, h.nms.frame fun id hid => ?_, h.pds.frame fun id hid => ?_, h.sep1, h.sep2, h.len⟩
  · obtain ⟨e', cs, hc⟩ := Row.isCells h.nms hid; exact key id _ _ hc
  · obtain ⟨e', cs, hc⟩ := Row.isCells h.pds hid; exact key id _ _ hc
theorem RefAt.frame {H H' : AHeap} {r : Nat} {L : List (ByteArray × Int)} {e : TypeId} {x y : AVal} (h : RefAt H r L e x y) (hf : ∀ j, j < H.next → H'.get j = H.get j) : RefAt H' r L e x y :=
  ⟨(hf r (AHeap.get_lt h.blk)).trans h.blk, h.nms.frame fun id hid => hf id (h.nms.ltn hid), h.pds.frame fun id hid => hf id (h.pds.ltn hid), h.sep1, h.sep2, h.len⟩
theorem NamAt.frame {H H' : AHeap} {n : Nat} {A : List Rec} {e : TypeId} {m1 m2 c1 c2 : Nat} (h : NamAt H n A e m1 m2 c1 c2) {r : Nat} {cs : List AVal} {e' : TypeId} (hr : H.get r = some (.cells e' cs)) (hne : n ≠ r) (hf : ∀ j, j < H.next → j ≠ r → H'.get j = H.get j) : NamAt H' n A e m1 m2 c1 c2 :=
  ⟨(hf n (AHeap.get_lt h.blk) hne).trans h.blk, (hf m1 (AHeap.get_lt h.mp1) (Ne.symm (cells_ne_map hr h.mp1))).trans h.mp1, (hf m2 (AHeap.get_lt h.mp2) (Ne.symm (cells_ne_map hr h.mp2))).trans h.mp2, h.ne, h.old, h.uniq⟩
theorem NamAt.push {H H' : AHeap} {n : Nat} {A : List Rec} {e : TypeId} {m1 m2 c1 c2 : Nat} (h : NamAt H n A e m1 m2 c1 c2) (hf : ∀ j, j < H.next → H'.get j = H.get j) : NamAt H' n A e m1 m2 c1 c2 :=
  ⟨(hf n (AHeap.get_lt h.blk)).trans h.blk, (hf m1 (AHeap.get_lt h.mp1)).trans h.mp1, (hf m2 (AHeap.get_lt h.mp2)).trans h.mp2, h.ne, h.old, h.uniq⟩
theorem Both.push {H H' : AHeap} {n r m1 m2 : Nat} {A : List Rec} {L : List (ByteArray × Int)} {c1 c2 : Nat} (h : Both H n r m1 m2 A L c1 c2) (hf : ∀ j, j < H.next → H'.get j = H.get j) : Both H' n r m1 m2 A L c1 c2 :=
  ⟨h.nam.push hf, let ⟨x, y, k⟩ := h.ref; ⟨x, y, k.frame hf⟩, h.same, h.ne⟩

def Stepped (H H' : AHeap) (n r m1 m2 : Nat) (L : List (ByteArray × Int)) : Prop :=
  (∃ A' L' c1' c2', Both H' n r m1 m2 A' L' c1' c2' ∧ L'.length ≤ L.length + 1) ∧ H.next ≤ H'.next ∧ ∀ j, j < H.next → j ≠ m1 → j ≠ m2 → j ≠ r → H'.get j = H.get j

theorem g7 {H : AHeap} {n r m1 m2 : Nat} {A : List Rec} {L : List (ByteArray × Int)} {c1 c2 : Nat} (h : Both H n r m1 m2 A L c1 c2) (k : Int) (s : ByteArray) (p : Int) (hroom : L.length + 1 < 100000) :
    DCall Try.prog 7 [.ptr n 0, .ptr r 0, .agg [.int .i64 k, .str s, .int .i64 p]] H fun a H' => a = .bool true ∧ Stepped H H' n r m1 m2 L := by
  refine DCall.of_body (fn := Try.f7) (by kernel_rfl) c7 (by kernel_rfl) (by simp [f7]) ?_
  obtain ⟨H1, hH1⟩ : ∃ H1, H1 = H.push (.cells 32 [.int .i64 k, .str s, .int .i64 p]) := ⟨_, rfl⟩
  have f1 : ∀ j, j < H.next → H1.get j = H.get j := fun j hj => by rw [hH1, AHeap.get_push, if_neg (by omega)]
  have g1 : H1.get H.next = some (.cells 32 [.int .i64 k, .str s, .int .i64 p]) := by rw [hH1, AHeap.get_push, if_pos rfl]
  have n1 : H1.next = H.next + 1 := by rw [hH1]; rfl
  have hb := h.push f1
  obtain ⟨x, y, hr⟩ := hb.ref
  have l0 := load_cell g1 (o := 0) (v := .int .i64 k) rfl
  have l1 := load_cell g1 (o := 1) (v := .str s) rfl
  have l2 := load_cell g1 (o := 2) (v := .int .i64 p) rfl
  have m1l := AHeap.get_lt h.nam.mp1
  have m2l := AHeap.get_lt h.nam.mp2
  have rl := (let ⟨x, y, k⟩ := h.ref; AHeap.get_lt k.blk : r < H.next)
  unfold f7
  simp only []
  repeat' (first | refine DR.seq ?_ | refine DR.block ?_ | refine DR.skip ?_ | refine DR.inBlock ?_)
  refine DR.ops ?_
  simp only [r7_0, DO_nil, DO_cons, OR'_nil, OR'_cons, onW_t, onW_f, onN_v, onN_c, onN_a, onB_t, onB_f, wantedA, astep, Env.val, Env.vals, Env.put, Env.set, Env.get, envFrom, Env.keep, afaddr, aun, AVal.cells, Option.bind_eq_bind, Option.bind_some, Option.pure_def, Nat.reduceEqDiff, Nat.succ_ne_self, if_true, if_false, reduceIte, Option.map_some, List.drop_zero, List.drop_succ_cons, List.length_cons, List.length_nil, Nat.reduceAdd, Nat.reduceLeDiff, Nat.zero_le, Nat.le_refl, List.getElem?_cons_zero, List.getElem?_cons_succ, beq_self_eq_true, Bool.false_eq_true, aundef, Nat.zero_add, Nat.add_zero, Bool.not_true, Bool.not_false, Bool.xor_false, Bool.false_xor, Bool.true_xor, Bool.xor_true, and_self, true_and, and_true, ← hH1]
  repeat' (first | refine DR.seq ?_ | refine DR.block ?_ | refine DR.skip ?_ | refine DR.inBlock ?_)
  refine DR.ops ?_
  simp only [r7_1, DO_nil, DO_cons, OR'_nil, OR'_cons, onW_t, onW_f, onN_v, onN_c, onN_a, onB_t, onB_f, wantedA, astep, Env.val, Env.vals, Env.put, Env.set, Env.get, envFrom, Env.keep, afaddr, aun, AVal.cells, Option.bind_eq_bind, Option.bind_some, Option.pure_def, Nat.reduceEqDiff, Nat.succ_ne_self, if_true, if_false, reduceIte, Option.map_some, List.drop_zero, List.drop_succ_cons, List.length_cons, List.length_nil, Nat.reduceAdd, Nat.reduceLeDiff, Nat.zero_le, Nat.le_refl, List.getElem?_cons_zero, List.getElem?_cons_succ, beq_self_eq_true, Bool.false_eq_true, aundef, Nat.zero_add, Nat.add_zero, Bool.not_true, Bool.not_false, Bool.xor_false, Bool.false_xor, Bool.true_xor, Bool.xor_true, and_self, true_and, and_true, l0]
  repeat' (first | refine DR.seq ?_ | refine DR.block ?_ | refine DR.skip ?_ | refine DR.inBlock ?_)
  refine DR.ops ?_
  simp only [r7_2, DO_nil, DO_cons, OR'_nil, OR'_cons, onW_t, onW_f, onN_v, onN_c, onN_a, onB_t, onB_f, wantedA, astep, Env.val, Env.vals, Env.put, Env.set, Env.get, envFrom, Env.keep, afaddr, aun, AVal.cells, Option.bind_eq_bind, Option.bind_some, Option.pure_def, Nat.reduceEqDiff, Nat.succ_ne_self, if_true, if_false, reduceIte, Option.map_some, List.drop_zero, List.drop_succ_cons, List.length_cons, List.length_nil, Nat.reduceAdd, Nat.reduceLeDiff, Nat.zero_le, Nat.le_refl, List.getElem?_cons_zero, List.getElem?_cons_succ, beq_self_eq_true, Bool.false_eq_true, aundef, Nat.zero_add, Nat.add_zero, Bool.not_true, Bool.not_false, Bool.xor_false, Bool.false_xor, Bool.true_xor, Bool.xor_true, and_self, true_and, and_true, abin]
  cases k1 : k == 1 with
  | true =>
    refine DR.yes rfl ?_
    repeat' (first | refine DR.seq ?_ | refine DR.block ?_ | refine DR.skip ?_ | refine DR.inBlock ?_)
    refine DR.draw (by kernel_rfl) d7_3 ?_
    simp only [r7_3, m7_3, DO_nil, DO_cons, OR'_nil, OR'_cons, onW_t, onW_f, onN_v, onN_c, onN_a, onB_t, onB_f, wantedA, astep, Env.val, Env.vals, Env.put, Env.set, Env.get, envFrom, Env.keep, afaddr, aun, AVal.cells, Option.bind_eq_bind, Option.bind_some, Option.pure_def, Nat.reduceEqDiff, Nat.succ_ne_self, if_true, if_false, reduceIte, Option.map_some, List.drop_zero, List.drop_succ_cons, List.length_cons, List.length_nil, Nat.reduceAdd, Nat.reduceLeDiff, Nat.zero_le, Nat.le_refl, List.getElem?_cons_zero, List.getElem?_cons_succ, beq_self_eq_true, Bool.false_eq_true, aundef, Nat.zero_add, Nat.add_zero, Bool.not_true, Bool.not_false, Bool.xor_false, Bool.false_xor, Bool.true_xor, Bool.xor_true, and_self, true_and, and_true, DS_nil, DS_cons, seesAll, staysAll, abit, List.getD_cons_zero, List.getD_cons_succ, AOp.quiet, AOp.reads, true_and, and_true, Nat.reducePow, Nat.reduceDiv, Nat.reduceMod, decide_true, decide_false, Nat.reduceEqDiff, reduceCtorEq, and_self, Nat.reduceBEq, l1, l2]
    refine (g13 hb.nam s p).mono ?_
    rintro a H2 ⟨o2, q2⟩
    have hr2 := hr.maps hb.nam.mp1 hb.nam.mp2 o2
    have g2 : H2.get H.next = some (.cells 32 [.int .i64 k, .str s, .int .i64 p]) := (o2.2 _ (by omega) (by omega)).trans g1
    have l1' := load_cell g2 (o := 1) (v := .str s) rfl
    have l2' := load_cell g2 (o := 2) (v := .int .i64 p) rfl
    simp only [DO_nil, DO_cons, OR'_nil, OR'_cons, onW_t, onW_f, onN_v, onN_c, onN_a, onB_t, onB_f, wantedA, astep, Env.val, Env.vals, Env.put, Env.set, Env.get, envFrom, Env.keep, afaddr, aun, AVal.cells, Option.bind_eq_bind, Option.bind_some, Option.pure_def, Nat.reduceEqDiff, Nat.succ_ne_self, if_true, if_false, reduceIte, Option.map_some, List.drop_zero, List.drop_succ_cons, List.length_cons, List.length_nil, Nat.reduceAdd, Nat.reduceLeDiff, Nat.zero_le, Nat.le_refl, List.getElem?_cons_zero, List.getElem?_cons_succ, beq_self_eq_true, Bool.false_eq_true, aundef, Nat.zero_add, Nat.add_zero, Bool.not_true, Bool.not_false, Bool.xor_false, Bool.false_xor, Bool.true_xor, Bool.xor_true, and_self, true_and, and_true, DS_nil, DS_cons, seesAll, staysAll, abit, List.getD_cons_zero, List.getD_cons_succ, AOp.quiet, AOp.reads, true_and, and_true, Nat.reducePow, Nat.reduceDiv, Nat.reduceMod, decide_true, decide_false, Nat.reduceEqDiff, reduceCtorEq, and_self, Nat.reduceBEq, l1, l2, l1', l2']
    refine (g15 hr2 s p hroom).mono ?_
    rintro b H3 ⟨q3, n3, f3⟩
    rw [h.same.any1, h.same.any2] at q3
    have fr : ∀ j, j < H.next → j ≠ m1 → j ≠ m2 → j ≠ r → H3.get j = H.get j := fun j hj j1 j2 j3 => by
      have := o2.1
      rw [f3 j (by omega) j3, o2.2 j j1 j2, f1 j hj]
    have nn : H.next ≤ H3.next := by have := o2.1; omega
    cases hbad : (badName s || (look1 s A 0).isSome || (look2 p A 0).isSome || decide (p < 1)) with
    | true =>
      rw [if_pos hbad] at q2
      rw [if_pos (by revert hbad; cases badName s <;> cases (look1 s A 0).isSome <;> cases (look2 p A 0).isSome <;> cases decide (p < 1) <;> simp)] at q3
      obtain ⟨rfl, q2⟩ := q2
      obtain ⟨rfl, x', y', q3⟩ := q3
      simp only [DO_nil, DO_cons, OR'_nil, OR'_cons, onW_t, onW_f, onN_v, onN_c, onN_a, onB_t, onB_f, wantedA, astep, Env.val, Env.vals, Env.put, Env.set, Env.get, envFrom, Env.keep, afaddr, aun, AVal.cells, Option.bind_eq_bind, Option.bind_some, Option.pure_def, Nat.reduceEqDiff, Nat.succ_ne_self, if_true, if_false, reduceIte, Option.map_some, List.drop_zero, List.drop_succ_cons, List.length_cons, List.length_nil, Nat.reduceAdd, Nat.reduceLeDiff, Nat.zero_le, Nat.le_refl, List.getElem?_cons_zero, List.getElem?_cons_succ, beq_self_eq_true, Bool.false_eq_true, aundef, Nat.zero_add, Nat.add_zero, Bool.not_true, Bool.not_false, Bool.xor_false, Bool.false_xor, Bool.true_xor, Bool.xor_true, and_self, true_and, and_true, DS_nil, DS_cons, seesAll, staysAll, abit, List.getD_cons_zero, List.getD_cons_succ, AOp.quiet, AOp.reads, true_and, and_true, Nat.reducePow, Nat.reduceDiv, Nat.reduceMod, decide_true, decide_false, Nat.reduceEqDiff, reduceCtorEq, and_self, Nat.reduceBEq, abin]
      exact DR.ret ⟨_, by simp [aresult, ares, Env.get] <;> rfl, rfl, ⟨A, L, c1, c2, ⟨q2.frame hr2.blk h.ne f3, ⟨x', y', q3⟩, h.same, h.ne⟩, by omega⟩, nn, fr⟩
    | false =>
      rw [if_neg (by rw [hbad]; simp)] at q2
      rw [if_neg (by revert hbad; cases badName s <;> cases (look1 s A 0).isSome <;> cases (look2 p A 0).isSome <;> cases decide (p < 1) <;> simp)] at q3
      obtain ⟨rfl, q2⟩ := q2
      obtain ⟨rfl, x', y', q3⟩ := q3
      simp only [DO_nil, DO_cons, OR'_nil, OR'_cons, onW_t, onW_f, onN_v, onN_c, onN_a, onB_t, onB_f, wantedA, astep, Env.val, Env.vals, Env.put, Env.set, Env.get, envFrom, Env.keep, afaddr, aun, AVal.cells, Option.bind_eq_bind, Option.bind_some, Option.pure_def, Nat.reduceEqDiff, Nat.succ_ne_self, if_true, if_false, reduceIte, Option.map_some, List.drop_zero, List.drop_succ_cons, List.length_cons, List.length_nil, Nat.reduceAdd, Nat.reduceLeDiff, Nat.zero_le, Nat.le_refl, List.getElem?_cons_zero, List.getElem?_cons_succ, beq_self_eq_true, Bool.false_eq_true, aundef, Nat.zero_add, Nat.add_zero, Bool.not_true, Bool.not_false, Bool.xor_false, Bool.false_xor, Bool.true_xor, Bool.xor_true, and_self, true_and, and_true, DS_nil, DS_cons, seesAll, staysAll, abit, List.getD_cons_zero, List.getD_cons_succ, AOp.quiet, AOp.reads, true_and, and_true, Nat.reducePow, Nat.reduceDiv, Nat.reduceMod, decide_true, decide_false, Nat.reduceEqDiff, reduceCtorEq, and_self, Nat.reduceBEq, abin]
      simp only [Bool.or_eq_false_iff] at hbad
      obtain ⟨⟨⟨b1, b2⟩, b3⟩, b4⟩ := hbad
      have hl1 : look1 s A 0 = none := by cases hh : look1 s A 0 with
        | none => rfl
        | some _ => rw [hh] at b2; cases b2
      have hl2 : look2 p A 0 = none := by cases hh : look2 p A 0 with
        | none => rfl
        | some _ => rw [hh] at b3; cases b3
      have hp : 1 ≤ p := by simp at b4; omega
      exact DR.ret ⟨_, by simp [aresult, ares, Env.get] <;> rfl, rfl, ⟨_, _, _, _, ⟨q2.frame hr2.blk h.ne f3, ⟨x', y', q3⟩, h.same.more b1 hl1 hl2 hp, h.ne⟩, by simp only [insertAt, List.length_append, List.length_take, List.length_drop, List.length_singleton]; omega⟩, nn, fr⟩
  | false =>
    refine DR.no rfl ?_
    repeat' (first | refine DR.seq ?_ | refine DR.block ?_ | refine DR.skip ?_ | refine DR.inBlock ?_)
    refine DR.ops ?_
    simp only [r7_4, DO_nil, DO_cons, OR'_nil, OR'_cons, onW_t, onW_f, onN_v, onN_c, onN_a, onB_t, onB_f, wantedA, astep, Env.val, Env.vals, Env.put, Env.set, Env.get, envFrom, Env.keep, afaddr, aun, AVal.cells, Option.bind_eq_bind, Option.bind_some, Option.pure_def, Nat.reduceEqDiff, Nat.succ_ne_self, if_true, if_false, reduceIte, Option.map_some, List.drop_zero, List.drop_succ_cons, List.length_cons, List.length_nil, Nat.reduceAdd, Nat.reduceLeDiff, Nat.zero_le, Nat.le_refl, List.getElem?_cons_zero, List.getElem?_cons_succ, beq_self_eq_true, Bool.false_eq_true, aundef, Nat.zero_add, Nat.add_zero, Bool.not_true, Bool.not_false, Bool.xor_false, Bool.false_xor, Bool.true_xor, Bool.xor_true, and_self, true_and, and_true, abin]
    cases k2 : k == 2 with
    | true =>
      refine DR.yes rfl ?_
      repeat' (first | refine DR.seq ?_ | refine DR.block ?_ | refine DR.skip ?_ | refine DR.inBlock ?_)
      refine DR.draw (by kernel_rfl) d7_5 ?_
      simp only [r7_5, m7_5, DO_nil, DO_cons, OR'_nil, OR'_cons, onW_t, onW_f, onN_v, onN_c, onN_a, onB_t, onB_f, wantedA, astep, Env.val, Env.vals, Env.put, Env.set, Env.get, envFrom, Env.keep, afaddr, aun, AVal.cells, Option.bind_eq_bind, Option.bind_some, Option.pure_def, Nat.reduceEqDiff, Nat.succ_ne_self, if_true, if_false, reduceIte, Option.map_some, List.drop_zero, List.drop_succ_cons, List.length_cons, List.length_nil, Nat.reduceAdd, Nat.reduceLeDiff, Nat.zero_le, Nat.le_refl, List.getElem?_cons_zero, List.getElem?_cons_succ, beq_self_eq_true, Bool.false_eq_true, aundef, Nat.zero_add, Nat.add_zero, Bool.not_true, Bool.not_false, Bool.xor_false, Bool.false_xor, Bool.true_xor, Bool.xor_true, and_self, true_and, and_true, DS_nil, DS_cons, seesAll, staysAll, abit, List.getD_cons_zero, List.getD_cons_succ, AOp.quiet, AOp.reads, true_and, and_true, Nat.reducePow, Nat.reduceDiv, Nat.reduceMod, decide_true, decide_false, Nat.reduceEqDiff, reduceCtorEq, and_self, Nat.reduceBEq, l1]
      refine (g16 hb.nam h.same.pds s).mono ?_
      rintro a H2 ⟨o2, q2⟩
      have hr2 := hr.maps hb.nam.mp1 hb.nam.mp2 o2
      have g2 : H2.get H.next = some (.cells 32 [.int .i64 k, .str s, .int .i64 p]) := (o2.2 _ (by omega) (by omega)).trans g1
      have l1' := load_cell g2 (o := 1) (v := .str s) rfl
      simp only [DO_nil, DO_cons, OR'_nil, OR'_cons, onW_t, onW_f, onN_v, onN_c, onN_a, onB_t, onB_f, wantedA, astep, Env.val, Env.vals, Env.put, Env.set, Env.get, envFrom, Env.keep, afaddr, aun, AVal.cells, Option.bind_eq_bind, Option.bind_some, Option.pure_def, Nat.reduceEqDiff, Nat.succ_ne_self, if_true, if_false, reduceIte, Option.map_some, List.drop_zero, List.drop_succ_cons, List.length_cons, List.length_nil, Nat.reduceAdd, Nat.reduceLeDiff, Nat.zero_le, Nat.le_refl, List.getElem?_cons_zero, List.getElem?_cons_succ, beq_self_eq_true, Bool.false_eq_true, aundef, Nat.zero_add, Nat.add_zero, Bool.not_true, Bool.not_false, Bool.xor_false, Bool.false_xor, Bool.true_xor, Bool.xor_true, and_self, true_and, and_true, DS_nil, DS_cons, seesAll, staysAll, abit, List.getD_cons_zero, List.getD_cons_succ, AOp.quiet, AOp.reads, true_and, and_true, Nat.reducePow, Nat.reduceDiv, Nat.reduceMod, decide_true, decide_false, Nat.reduceEqDiff, reduceCtorEq, and_self, Nat.reduceBEq, l1, l1']
      refine (g17 hr2 s).mono ?_
      rintro b H3 ⟨q3, n3, f3⟩
      have fr : ∀ j, j < H.next → j ≠ m1 → j ≠ m2 → j ≠ r → H3.get j = H.get j := fun j hj j1 j2 j3 => by
        have := o2.1
        rw [f3 j (by omega) j3, o2.2 j j1 j2, f1 j hj]
      have nn : H.next ≤ H3.next := by have := o2.1; omega
      rcases h.same.find1 s with ⟨e1, e2⟩ | ⟨i, ra, j, e1, e2, e3, e4⟩
      · simp only [e1] at q2
        simp only [e2] at q3
        obtain ⟨rfl, q2⟩ := q2
        obtain ⟨rfl, x', y', q3⟩ := q3
        simp only [DO_nil, DO_cons, OR'_nil, OR'_cons, onW_t, onW_f, onN_v, onN_c, onN_a, onB_t, onB_f, wantedA, astep, Env.val, Env.vals, Env.put, Env.set, Env.get, envFrom, Env.keep, afaddr, aun, AVal.cells, Option.bind_eq_bind, Option.bind_some, Option.pure_def, Nat.reduceEqDiff, Nat.succ_ne_self, if_true, if_false, reduceIte, Option.map_some, List.drop_zero, List.drop_succ_cons, List.length_cons, List.length_nil, Nat.reduceAdd, Nat.reduceLeDiff, Nat.zero_le, Nat.le_refl, List.getElem?_cons_zero, List.getElem?_cons_succ, beq_self_eq_true, Bool.false_eq_true, aundef, Nat.zero_add, Nat.add_zero, Bool.not_true, Bool.not_false, Bool.xor_false, Bool.false_xor, Bool.true_xor, Bool.xor_true, and_self, true_and, and_true, DS_nil, DS_cons, seesAll, staysAll, abit, List.getD_cons_zero, List.getD_cons_succ, AOp.quiet, AOp.reads, true_and, and_true, Nat.reducePow, Nat.reduceDiv, Nat.reduceMod, decide_true, decide_false, Nat.reduceEqDiff, reduceCtorEq, and_self, Nat.reduceBEq, abin]
        exact DR.ret ⟨_, by simp [aresult, ares, Env.get] <;> rfl, rfl, ⟨A, L, c1, c2, ⟨q2.frame hr2.blk h.ne f3, ⟨x', y', q3⟩, h.same, h.ne⟩, by omega⟩, nn, fr⟩
      · simp only [e1] at q2
        simp only [e2] at q3
        obtain ⟨rfl, q2⟩ := q2
        obtain ⟨rfl, x', y', q3⟩ := q3
        simp only [DO_nil, DO_cons, OR'_nil, OR'_cons, onW_t, onW_f, onN_v, onN_c, onN_a, onB_t, onB_f, wantedA, astep, Env.val, Env.vals, Env.put, Env.set, Env.get, envFrom, Env.keep, afaddr, aun, AVal.cells, Option.bind_eq_bind, Option.bind_some, Option.pure_def, Nat.reduceEqDiff, Nat.succ_ne_self, if_true, if_false, reduceIte, Option.map_some, List.drop_zero, List.drop_succ_cons, List.length_cons, List.length_nil, Nat.reduceAdd, Nat.reduceLeDiff, Nat.zero_le, Nat.le_refl, List.getElem?_cons_zero, List.getElem?_cons_succ, beq_self_eq_true, Bool.false_eq_true, aundef, Nat.zero_add, Nat.add_zero, Bool.not_true, Bool.not_false, Bool.xor_false, Bool.false_xor, Bool.true_xor, Bool.xor_true, and_self, true_and, and_true, DS_nil, DS_cons, seesAll, staysAll, abit, List.getD_cons_zero, List.getD_cons_succ, AOp.quiet, AOp.reads, true_and, and_true, Nat.reducePow, Nat.reduceDiv, Nat.reduceMod, decide_true, decide_false, Nat.reduceEqDiff, reduceCtorEq, and_self, Nat.reduceBEq, abin]
        exact DR.ret ⟨_, by simp [aresult, ares, Env.get] <;> rfl, rfl, ⟨_, _, _, _, ⟨q2.frame hr2.blk h.ne f3, ⟨x', y', q3⟩, h.same.gone e3 e4, h.ne⟩, by rw [List.length_eraseIdx]; split <;> omega⟩, nn, fr⟩
    | false =>
      refine DR.no rfl ?_
      repeat' (first | refine DR.seq ?_ | refine DR.block ?_ | refine DR.skip ?_ | refine DR.inBlock ?_)
      refine DR.ops ?_
      simp only [r7_6, DO_nil, DO_cons, OR'_nil, OR'_cons, onW_t, onW_f, onN_v, onN_c, onN_a, onB_t, onB_f, wantedA, astep, Env.val, Env.vals, Env.put, Env.set, Env.get, envFrom, Env.keep, afaddr, aun, AVal.cells, Option.bind_eq_bind, Option.bind_some, Option.pure_def, Nat.reduceEqDiff, Nat.succ_ne_self, if_true, if_false, reduceIte, Option.map_some, List.drop_zero, List.drop_succ_cons, List.length_cons, List.length_nil, Nat.reduceAdd, Nat.reduceLeDiff, Nat.zero_le, Nat.le_refl, List.getElem?_cons_zero, List.getElem?_cons_succ, beq_self_eq_true, Bool.false_eq_true, aundef, Nat.zero_add, Nat.add_zero, Bool.not_true, Bool.not_false, Bool.xor_false, Bool.false_xor, Bool.true_xor, Bool.xor_true, and_self, true_and, and_true, abin]
      cases k3 : k == 3 with
      | true =>
        refine DR.yes rfl ?_
        repeat' (first | refine DR.seq ?_ | refine DR.block ?_ | refine DR.skip ?_ | refine DR.inBlock ?_)
        refine DR.draw (by kernel_rfl) d7_7 ?_
        simp only [r7_7, m7_7, DO_nil, DO_cons, OR'_nil, OR'_cons, onW_t, onW_f, onN_v, onN_c, onN_a, onB_t, onB_f, wantedA, astep, Env.val, Env.vals, Env.put, Env.set, Env.get, envFrom, Env.keep, afaddr, aun, AVal.cells, Option.bind_eq_bind, Option.bind_some, Option.pure_def, Nat.reduceEqDiff, Nat.succ_ne_self, if_true, if_false, reduceIte, Option.map_some, List.drop_zero, List.drop_succ_cons, List.length_cons, List.length_nil, Nat.reduceAdd, Nat.reduceLeDiff, Nat.zero_le, Nat.le_refl, List.getElem?_cons_zero, List.getElem?_cons_succ, beq_self_eq_true, Bool.false_eq_true, aundef, Nat.zero_add, Nat.add_zero, Bool.not_true, Bool.not_false, Bool.xor_false, Bool.false_xor, Bool.true_xor, Bool.xor_true, and_self, true_and, and_true, DS_nil, DS_cons, seesAll, staysAll, abit, List.getD_cons_zero, List.getD_cons_succ, AOp.quiet, AOp.reads, true_and, and_true, Nat.reducePow, Nat.reduceDiv, Nat.reduceMod, decide_true, decide_false, Nat.reduceEqDiff, reduceCtorEq, and_self, Nat.reduceBEq, l2]
        refine (g14 hb.nam h.same.pds h.same.nms p).mono ?_
        rintro a H2 ⟨o2, q2⟩
        have hr2 := hr.maps hb.nam.mp1 hb.nam.mp2 o2
        have g2 : H2.get H.next = some (.cells 32 [.int .i64 k, .str s, .int .i64 p]) := (o2.2 _ (by omega) (by omega)).trans g1
        have l2' := load_cell g2 (o := 2) (v := .int .i64 p) rfl
        simp only [DO_nil, DO_cons, OR'_nil, OR'_cons, onW_t, onW_f, onN_v, onN_c, onN_a, onB_t, onB_f, wantedA, astep, Env.val, Env.vals, Env.put, Env.set, Env.get, envFrom, Env.keep, afaddr, aun, AVal.cells, Option.bind_eq_bind, Option.bind_some, Option.pure_def, Nat.reduceEqDiff, Nat.succ_ne_self, if_true, if_false, reduceIte, Option.map_some, List.drop_zero, List.drop_succ_cons, List.length_cons, List.length_nil, Nat.reduceAdd, Nat.reduceLeDiff, Nat.zero_le, Nat.le_refl, List.getElem?_cons_zero, List.getElem?_cons_succ, beq_self_eq_true, Bool.false_eq_true, aundef, Nat.zero_add, Nat.add_zero, Bool.not_true, Bool.not_false, Bool.xor_false, Bool.false_xor, Bool.true_xor, Bool.xor_true, and_self, true_and, and_true, DS_nil, DS_cons, seesAll, staysAll, abit, List.getD_cons_zero, List.getD_cons_succ, AOp.quiet, AOp.reads, true_and, and_true, Nat.reducePow, Nat.reduceDiv, Nat.reduceMod, decide_true, decide_false, Nat.reduceEqDiff, reduceCtorEq, and_self, Nat.reduceBEq, l2, l2']
        refine (g18 hr2 p).mono ?_
        rintro b H3 ⟨q3, n3, f3⟩
        have fr : ∀ j, j < H.next → j ≠ m1 → j ≠ m2 → j ≠ r → H3.get j = H.get j := fun j hj j1 j2 j3 => by
          have := o2.1
          rw [f3 j (by omega) j3, o2.2 j j1 j2, f1 j hj]
        have nn : H.next ≤ H3.next := by have := o2.1; omega
        rcases h.same.find2 p with ⟨e1, e2⟩ | ⟨i, ra, j, e1, e2, e3, e4⟩
        · simp only [e1] at q2
          simp only [e2] at q3
          obtain ⟨rfl, q2⟩ := q2
          obtain ⟨rfl, x', y', q3⟩ := q3
          simp only [DO_nil, DO_cons, OR'_nil, OR'_cons, onW_t, onW_f, onN_v, onN_c, onN_a, onB_t, onB_f, wantedA, astep, Env.val, Env.vals, Env.put, Env.set, Env.get, envFrom, Env.keep, afaddr, aun, AVal.cells, Option.bind_eq_bind, Option.bind_some, Option.pure_def, Nat.reduceEqDiff, Nat.succ_ne_self, if_true, if_false, reduceIte, Option.map_some, List.drop_zero, List.drop_succ_cons, List.length_cons, List.length_nil, Nat.reduceAdd, Nat.reduceLeDiff, Nat.zero_le, Nat.le_refl, List.getElem?_cons_zero, List.getElem?_cons_succ, beq_self_eq_true, Bool.false_eq_true, aundef, Nat.zero_add, Nat.add_zero, Bool.not_true, Bool.not_false, Bool.xor_false, Bool.false_xor, Bool.true_xor, Bool.xor_true, and_self, true_and, and_true, DS_nil, DS_cons, seesAll, staysAll, abit, List.getD_cons_zero, List.getD_cons_succ, AOp.quiet, AOp.reads, true_and, and_true, Nat.reducePow, Nat.reduceDiv, Nat.reduceMod, decide_true, decide_false, Nat.reduceEqDiff, reduceCtorEq, and_self, Nat.reduceBEq, abin]
          exact DR.ret ⟨_, by simp [aresult, ares, Env.get] <;> rfl, rfl, ⟨A, L, c1, c2, ⟨q2.frame hr2.blk h.ne f3, ⟨x', y', q3⟩, h.same, h.ne⟩, by omega⟩, nn, fr⟩
        · simp only [e1] at q2
          simp only [e2] at q3
          obtain ⟨rfl, q2⟩ := q2
          obtain ⟨rfl, x', y', q3⟩ := q3
          simp only [DO_nil, DO_cons, OR'_nil, OR'_cons, onW_t, onW_f, onN_v, onN_c, onN_a, onB_t, onB_f, wantedA, astep, Env.val, Env.vals, Env.put, Env.set, Env.get, envFrom, Env.keep, afaddr, aun, AVal.cells, Option.bind_eq_bind, Option.bind_some, Option.pure_def, Nat.reduceEqDiff, Nat.succ_ne_self, if_true, if_false, reduceIte, Option.map_some, List.drop_zero, List.drop_succ_cons, List.length_cons, List.length_nil, Nat.reduceAdd, Nat.reduceLeDiff, Nat.zero_le, Nat.le_refl, List.getElem?_cons_zero, List.getElem?_cons_succ, beq_self_eq_true, Bool.false_eq_true, aundef, Nat.zero_add, Nat.add_zero, Bool.not_true, Bool.not_false, Bool.xor_false, Bool.false_xor, Bool.true_xor, Bool.xor_true, and_self, true_and, and_true, DS_nil, DS_cons, seesAll, staysAll, abit, List.getD_cons_zero, List.getD_cons_succ, AOp.quiet, AOp.reads, true_and, and_true, Nat.reducePow, Nat.reduceDiv, Nat.reduceMod, decide_true, decide_false, Nat.reduceEqDiff, reduceCtorEq, and_self, Nat.reduceBEq, abin]
          exact DR.ret ⟨_, by simp [aresult, ares, Env.get] <;> rfl, rfl, ⟨_, _, _, _, ⟨q2.frame hr2.blk h.ne f3, ⟨x', y', q3⟩, h.same.gone e3 e4, h.ne⟩, by rw [List.length_eraseIdx]; split <;> omega⟩, nn, fr⟩
      | false =>
        refine DR.no rfl ?_
        repeat' (first | refine DR.seq ?_ | refine DR.block ?_ | refine DR.skip ?_ | refine DR.inBlock ?_)
        refine DR.ops ?_
        simp only [r7_8, DO_nil, DO_cons, OR'_nil, OR'_cons, onW_t, onW_f, onN_v, onN_c, onN_a, onB_t, onB_f, wantedA, astep, Env.val, Env.vals, Env.put, Env.set, Env.get, envFrom, Env.keep, afaddr, aun, AVal.cells, Option.bind_eq_bind, Option.bind_some, Option.pure_def, Nat.reduceEqDiff, Nat.succ_ne_self, if_true, if_false, reduceIte, Option.map_some, List.drop_zero, List.drop_succ_cons, List.length_cons, List.length_nil, Nat.reduceAdd, Nat.reduceLeDiff, Nat.zero_le, Nat.le_refl, List.getElem?_cons_zero, List.getElem?_cons_succ, beq_self_eq_true, Bool.false_eq_true, aundef, Nat.zero_add, Nat.add_zero, Bool.not_true, Bool.not_false, Bool.xor_false, Bool.false_xor, Bool.true_xor, Bool.xor_true, and_self, true_and, and_true]
        exact DR.ret ⟨_, by simp [aresult, ares, Env.get] <;> rfl, rfl, ⟨A, L, c1, c2, hb, by omega⟩, by omega, fun j hj _ _ _ => f1 j hj⟩
end Go.Am.Rn
