import Derived.Test.YtakbdcikjpmmiaaW5
set_option linter.unusedVariables false
set_option linter.unusedSimpArgs false
namespace Go.Am.Rn
open Go.Proofs

theorem ones_str (L : List (ByteArray × Int)) : ones (L.map fun p => AVal.str p.1) = true := by simp [ones, AVal.one]
theorem ones_int (L : List (ByteArray × Int)) : ones (L.map fun p => AVal.int .i64 p.2) = true := by simp [ones, AVal.one]

theorem g20 {H : AHeap} {r : Nat} {L : List (ByteArray × Int)} {e : TypeId} {x y : AVal} (h : RefAt H r L e x y) {i : Nat} (hi : i < L.length) :
    DCall Try.prog 20 [.ptr r 0, .int .i64 (i : Int)] H fun a H' => a = .tup [] ∧ (∃ x' y', RefAt H' r (L.eraseIdx i) e x' y') ∧ H.next ≤ H'.next ∧ ∀ j, j < H.next → j ≠ r → H'.get j = H.get j := by
  refine DCall.of_body (fn := Try.f20) (by kernel_rfl) c20 (by kernel_rfl) (by simp [f20]) ?_
  have hlen := h.len
  have hrl := AHeap.get_lt h.blk
  obtain ⟨x1, x2, x3, x4, H2, H3, H4, R⟩ := rebuilt (o := 0) (b := 16) (i := i) h.blk rfl h.nms h.sep1 (by simpa using hi) (ones_str L) (by simp; omega) (by simp; omega)
  have hy4 : Row H4 3 y (L.map fun p => .int .i64 p.2) := h.pds.frame fun id hid => R.same id (h.pds.ltn hid) (fun e => h.sep2 (by rw [hid, e]))
  obtain ⟨y1, y2, y3, y4, H6, H7, H8, S⟩ := rebuilt (o := 1) (b := 8) (i := i) R.blk rfl hy4 h.sep2 (by simpa using hi) (ones_int L) (by simp; omega) (by simp; omega)
  have hw : IntKind.i64.wrap ((i : Int) + 1) = ((i + 1 : Nat) : Int) := wrap64 (n := i + 1) (by omega)
  have q1 := R.l0; have q2 := R.l1; have q3 := R.l2; have q4 := R.t0; have q5 := R.t1; have q6 := R.t2; have q7 := R.s1; have q8 := R.s2; have q9 := R.a1; have q10 := R.a2; have q11 := R.st
  have p1 := S.l0; have p2 := S.l1; have p3 := S.l2; have p4 := S.t0; have p5 := S.t1; have p6 := S.t2; have p7 := S.s1; have p8 := S.s2; have p9 := S.a1; have p10 := S.a2; have p11 := S.st
  unfold f20
  simp only []
  repeat' (first | refine DR.seq ?_ | refine DR.block ?_ | refine DR.skip ?_ | refine DR.inBlock ?_)
  refine DR.draw (by kernel_rfl) d20_0 ?_
  simp only [r20_0, m20_0, DO_nil, DO_cons, OR'_nil, OR'_cons, onW_t, onW_f, onN_v, onN_c, onN_a, onB_t, onB_f, wantedA, astep, Env.val, Env.vals, Env.put, Env.set, Env.get, envFrom, Env.keep, afaddr, aun, AVal.cells, Option.bind_eq_bind, Option.bind_some, Option.pure_def, Nat.reduceEqDiff, Nat.succ_ne_self, if_true, if_false, reduceIte, Option.map_some, List.drop_zero, List.drop_succ_cons, List.length_cons, List.length_nil, Nat.reduceAdd, Nat.reduceLeDiff, Nat.zero_le, Nat.le_refl, List.getElem?_cons_zero, List.getElem?_cons_succ, beq_self_eq_true, Bool.false_eq_true, aundef, Nat.zero_add, Nat.add_zero, Bool.not_true, Bool.not_false, Bool.xor_false, Bool.false_xor, Bool.true_xor, Bool.xor_true, and_self, true_and, and_true, DS_nil, DS_cons, seesAll, staysAll, abit, List.getD_cons_zero, List.getD_cons_succ, AOp.quiet, AOp.reads, true_and, and_true, Nat.reducePow, Nat.reduceDiv, Nat.reduceMod, decide_true, decide_false, Nat.reduceEqDiff, reduceCtorEq, and_self, Nat.reduceBEq, Env.parts, afill, abin, hw, q1, q2, q3, q4, q5, q6, q7, q8, q9, q10, q11]
  refine DR.draw (by kernel_rfl) d20_1 ?_
  simp only [r20_1, m20_1, DO_nil, DO_cons, OR'_nil, OR'_cons, onW_t, onW_f, onN_v, onN_c, onN_a, onB_t, onB_f, wantedA, astep, Env.val, Env.vals, Env.put, Env.set, Env.get, envFrom, Env.keep, afaddr, aun, AVal.cells, Option.bind_eq_bind, Option.bind_some, Option.pure_def, Nat.reduceEqDiff, Nat.succ_ne_self, if_true, if_false, reduceIte, Option.map_some, List.drop_zero, List.drop_succ_cons, List.length_cons, List.length_nil, Nat.reduceAdd, Nat.reduceLeDiff, Nat.zero_le, Nat.le_refl, List.getElem?_cons_zero, List.getElem?_cons_succ, beq_self_eq_true, Bool.false_eq_true, aundef, Nat.zero_add, Nat.add_zero, Bool.not_true, Bool.not_false, Bool.xor_false, Bool.false_xor, Bool.true_xor, Bool.xor_true, and_self, true_and, and_true, DS_nil, DS_cons, seesAll, staysAll, abit, List.getD_cons_zero, List.getD_cons_succ, AOp.quiet, AOp.reads, true_and, and_true, Nat.reducePow, Nat.reduceDiv, Nat.reduceMod, decide_true, decide_false, Nat.reduceEqDiff, reduceCtorEq, and_self, Nat.reduceBEq, Env.parts, afill, abin, hw, p1, p2, p3, p4, p5, p6, p7, p8, p9, p10, p11]
  refine DR.done ⟨_, by simp [aresult, ares, Env.get] <;> rfl, rfl, ⟨x4, y4, S.blk, ?_, ?_, R.sep, S.sep, ?_⟩, Nat.le_trans R.next S.next, fun j hj hjr => ?_⟩
  · have := R.row.frame (H' := H8) fun id hid => S.same id (R.row.ltn hid) (fun e => R.sep (by rw [hid, e]))
    rw [List.eraseIdx_eq_take_drop_succ, List.map_append, List.map_take, List.map_drop]
    exact this
  · have := S.row
    rw [List.eraseIdx_eq_take_drop_succ, List.map_append, List.map_take, List.map_drop]
    exact this
  · rw [List.length_eraseIdx]; split <;> omega
  · rw [S.same j (Nat.lt_of_lt_of_le hj R.next) hjr, R.same j hj hjr]

/-- The first at which something holds. -/
theorem g17 {H : AHeap} {r : Nat} {L : List (ByteArray × Int)} {e : TypeId} {x y : AVal} (h : RefAt H r L e x y) (s : ByteArray) :
    DCall Try.prog 17 [.ptr r 0, .str s] H fun a H' => (match L.findIdx? (fun p => p.1.toList == s.toList) with
      | none => a = .int .i64 13 ∧ ∃ x' y', RefAt H' r L e x' y'
      | some i => a = .int .i64 0 ∧ ∃ x' y', RefAt H' r (L.eraseIdx i) e x' y') ∧ H.next ≤ H'.next ∧ ∀ j, j < H.next → j ≠ r → H'.get j = H.get j := by
  refine DCall.of_body (fn := Try.f17) (by kernel_rfl) c17 (by kernel_rfl) (by simp [f17]) ?_
  have hx := load_cell h.blk (o := 0) (v := x) rfl
  have hl := h.nms.alenT (H' := H)
  rw [List.length_map] at hl
  unfold f17
  simp only []
  repeat' (first | refine DR.seq ?_ | refine DR.block ?_ | refine DR.skip ?_ | refine DR.inBlock ?_)
  refine DR.ops ?_
  simp only [r17_0, DO_nil, DO_cons, OR'_nil, OR'_cons, onW_t, onW_f, onN_v, onN_c, onN_a, onB_t, onB_f, wantedA, astep, Env.val, Env.vals, Env.put, Env.set, Env.get, envFrom, Env.keep, afaddr, aun, AVal.cells, Option.bind_eq_bind, Option.bind_some, Option.pure_def, Nat.reduceEqDiff, Nat.succ_ne_self, if_true, if_false, reduceIte, Option.map_some, List.drop_zero, List.drop_succ_cons, List.length_cons, List.length_nil, Nat.reduceAdd, Nat.reduceLeDiff, Nat.zero_le, Nat.le_refl, List.getElem?_cons_zero, List.getElem?_cons_succ, beq_self_eq_true, Bool.false_eq_true, aundef, Nat.zero_add, Nat.add_zero, Bool.not_true, Bool.not_false, Bool.xor_false, Bool.false_xor, Bool.true_xor, Bool.xor_true, and_self, true_and, and_true]
  repeat' (first | refine DR.seq ?_ | refine DR.block ?_ | refine DR.skip ?_ | refine DR.inBlock ?_)
  refine DR.ops ?_
  simp only [r17_1, DO_nil, DO_cons, OR'_nil, OR'_cons, onW_t, onW_f, onN_v, onN_c, onN_a, onB_t, onB_f, wantedA, astep, Env.val, Env.vals, Env.put, Env.set, Env.get, envFrom, Env.keep, afaddr, aun, AVal.cells, Option.bind_eq_bind, Option.bind_some, Option.pure_def, Nat.reduceEqDiff, Nat.succ_ne_self, if_true, if_false, reduceIte, Option.map_some, List.drop_zero, List.drop_succ_cons, List.length_cons, List.length_nil, Nat.reduceAdd, Nat.reduceLeDiff, Nat.zero_le, Nat.le_refl, List.getElem?_cons_zero, List.getElem?_cons_succ, beq_self_eq_true, Bool.false_eq_true, aundef, Nat.zero_add, Nat.add_zero, Bool.not_true, Bool.not_false, Bool.xor_false, Bool.false_xor, Bool.true_xor, Bool.xor_true, and_self, true_and, and_true]
  refine DR.block ?_
  refine DR.loop ?_
  refine (?_ : ∀ (d i : Nat), i + d = L.length → (∀ j, j < i → ∀ p, L[j]? = some p → (p.1.toList == s.toList) = false) → DR Try.prog (kof k17) 27 [.code l17_0, .inLoop l17_0, .inBlock 0, .code ((ACode.region false r17_7 [4]).seq .ret)] [(0, .ptr r 0), (1, .str s), (5, .int .i64 i)] H _) L.length 0 (by omega) (fun j hj => by omega)
  intro d
  induction d with
  | zero =>
    intro i hi hno
    obtain rfl : i = L.length := by omega
    repeat' (first | refine DR.seq ?_ | refine DR.block ?_ | refine DR.skip ?_ | refine DR.inBlock ?_)
    refine DR.ops ?_
    simp only [r17_2, DO_nil, DO_cons, OR'_nil, OR'_cons, onW_t, onW_f, onN_v, onN_c, onN_a, onB_t, onB_f, wantedA, astep, Env.val, Env.vals, Env.put, Env.set, Env.get, envFrom, Env.keep, afaddr, aun, AVal.cells, Option.bind_eq_bind, Option.bind_some, Option.pure_def, Nat.reduceEqDiff, Nat.succ_ne_self, if_true, if_false, reduceIte, Option.map_some, List.drop_zero, List.drop_succ_cons, List.length_cons, List.length_nil, Nat.reduceAdd, Nat.reduceLeDiff, Nat.zero_le, Nat.le_refl, List.getElem?_cons_zero, List.getElem?_cons_succ, beq_self_eq_true, Bool.false_eq_true, aundef, Nat.zero_add, Nat.add_zero, Bool.not_true, Bool.not_false, Bool.xor_false, Bool.false_xor, Bool.true_xor, Bool.xor_true, and_self, true_and, and_true, hx, hl, abin, Int.lt_irrefl, decide_false]
    refine DR.no rfl ?_
    refine DR.exit rfl ?_
    repeat' (first | refine DR.seq ?_ | refine DR.block ?_ | refine DR.skip ?_ | refine DR.inBlock ?_)
    refine DR.ops ?_
    simp only [r17_7, DO_nil, DO_cons, OR'_nil, OR'_cons, onW_t, onW_f, onN_v, onN_c, onN_a, onB_t, onB_f, wantedA, astep, Env.val, Env.vals, Env.put, Env.set, Env.get, envFrom, Env.keep, afaddr, aun, AVal.cells, Option.bind_eq_bind, Option.bind_some, Option.pure_def, Nat.reduceEqDiff, Nat.succ_ne_self, if_true, if_false, reduceIte, Option.map_some, List.drop_zero, List.drop_succ_cons, List.length_cons, List.length_nil, Nat.reduceAdd, Nat.reduceLeDiff, Nat.zero_le, Nat.le_refl, List.getElem?_cons_zero, List.getElem?_cons_succ, beq_self_eq_true, Bool.false_eq_true, aundef, Nat.zero_add, Nat.add_zero, Bool.not_true, Bool.not_false, Bool.xor_false, Bool.false_xor, Bool.true_xor, Bool.xor_true, and_self, true_and, and_true]
    have hf : L.findIdx? (fun p => p.1.toList == s.toList) = none := by
      rw [List.findIdx?_eq_none_iff]
      intro p hp
      obtain ⟨j, hj⟩ := List.mem_iff_getElem?.mp hp
      exact hno j (List.getElem?_eq_some_iff.mp hj).1 p hj
    refine DR.ret ⟨_, by simp [aresult, ares, Env.get] <;> rfl, ?_, Nat.le_refl _, fun _ _ _ => rfl⟩
    rw [hf]; exact ⟨rfl, x, y, h⟩
  | succ d ih =>
    intro i hi hno
    have hlt : i < L.length := by omega
    obtain ⟨p, hp⟩ : ∃ p, L[i]? = some p := ⟨_, List.getElem?_eq_getElem hlt⟩
    have ha := h.nms.addr H (k := .i64) (i := i) (by simpa using hlt)
    have hld := h.nms.load (i := i) (v := .str p.1) (by simp [hp])
    repeat' (first | refine DR.seq ?_ | refine DR.block ?_ | refine DR.skip ?_ | refine DR.inBlock ?_)
    refine DR.ops ?_
    have hcmp : decide ((i : Int) < (L.length : Int)) = true := by simp; omega
    simp only [r17_2, DO_nil, DO_cons, OR'_nil, OR'_cons, onW_t, onW_f, onN_v, onN_c, onN_a, onB_t, onB_f, wantedA, astep, Env.val, Env.vals, Env.put, Env.set, Env.get, envFrom, Env.keep, afaddr, aun, AVal.cells, Option.bind_eq_bind, Option.bind_some, Option.pure_def, Nat.reduceEqDiff, Nat.succ_ne_self, if_true, if_false, reduceIte, Option.map_some, List.drop_zero, List.drop_succ_cons, List.length_cons, List.length_nil, Nat.reduceAdd, Nat.reduceLeDiff, Nat.zero_le, Nat.le_refl, List.getElem?_cons_zero, List.getElem?_cons_succ, beq_self_eq_true, Bool.false_eq_true, aundef, Nat.zero_add, Nat.add_zero, Bool.not_true, Bool.not_false, Bool.xor_false, Bool.false_xor, Bool.true_xor, Bool.xor_true, and_self, true_and, and_true, hx, hl, abin, hcmp]
    refine DR.yes rfl ?_
    repeat' (first | refine DR.seq ?_ | refine DR.block ?_ | refine DR.skip ?_ | refine DR.inBlock ?_)
    refine DR.ops ?_
    simp only [r17_4, DO_nil, DO_cons, OR'_nil, OR'_cons, onW_t, onW_f, onN_v, onN_c, onN_a, onB_t, onB_f, wantedA, astep, Env.val, Env.vals, Env.put, Env.set, Env.get, envFrom, Env.keep, afaddr, aun, AVal.cells, Option.bind_eq_bind, Option.bind_some, Option.pure_def, Nat.reduceEqDiff, Nat.succ_ne_self, if_true, if_false, reduceIte, Option.map_some, List.drop_zero, List.drop_succ_cons, List.length_cons, List.length_nil, Nat.reduceAdd, Nat.reduceLeDiff, Nat.zero_le, Nat.le_refl, List.getElem?_cons_zero, List.getElem?_cons_succ, beq_self_eq_true, Bool.false_eq_true, aundef, Nat.zero_add, Nat.add_zero, Bool.not_true, Bool.not_false, Bool.xor_false, Bool.false_xor, Bool.true_xor, Bool.xor_true, and_self, true_and, and_true, hx, ha, hld, abin]
    cases hb : p.1.toList == s.toList with
    | true =>
      refine DR.yes rfl ?_
      repeat' (first | refine DR.seq ?_ | refine DR.block ?_ | refine DR.skip ?_ | refine DR.inBlock ?_)
      refine DR.ops ?_
      simp only [r17_5, DO_nil, DO_cons, OR'_nil, OR'_cons, onW_t, onW_f, onN_v, onN_c, onN_a, onB_t, onB_f, wantedA, astep, Env.val, Env.vals, Env.put, Env.set, Env.get, envFrom, Env.keep, afaddr, aun, AVal.cells, Option.bind_eq_bind, Option.bind_some, Option.pure_def, Nat.reduceEqDiff, Nat.succ_ne_self, if_true, if_false, reduceIte, Option.map_some, List.drop_zero, List.drop_succ_cons, List.length_cons, List.length_nil, Nat.reduceAdd, Nat.reduceLeDiff, Nat.zero_le, Nat.le_refl, List.getElem?_cons_zero, List.getElem?_cons_succ, beq_self_eq_true, Bool.false_eq_true, aundef, Nat.zero_add, Nat.add_zero, Bool.not_true, Bool.not_false, Bool.xor_false, Bool.false_xor, Bool.true_xor, Bool.xor_true, and_self, true_and, and_true]
      refine (g20 h hlt).mono ?_
      rintro a H' ⟨rfl, hat, hn, hs⟩
      simp only [DO_nil, DO_cons, OR'_nil, OR'_cons, onW_t, onW_f, onN_v, onN_c, onN_a, onB_t, onB_f, wantedA, astep, Env.val, Env.vals, Env.put, Env.set, Env.get, envFrom, Env.keep, afaddr, aun, AVal.cells, Option.bind_eq_bind, Option.bind_some, Option.pure_def, Nat.reduceEqDiff, Nat.succ_ne_self, if_true, if_false, reduceIte, Option.map_some, List.drop_zero, List.drop_succ_cons, List.length_cons, List.length_nil, Nat.reduceAdd, Nat.reduceLeDiff, Nat.zero_le, Nat.le_refl, List.getElem?_cons_zero, List.getElem?_cons_succ, beq_self_eq_true, Bool.false_eq_true, aundef, Nat.zero_add, Nat.add_zero, Bool.not_true, Bool.not_false, Bool.xor_false, Bool.false_xor, Bool.true_xor, Bool.xor_true, and_self, true_and, and_true]
      repeat' (first | refine DR.seq ?_ | refine DR.block ?_ | refine DR.skip ?_ | refine DR.inBlock ?_)
      refine DR.ops ?_
      simp only [r17_6, DO_nil, DO_cons, OR'_nil, OR'_cons, onW_t, onW_f, onN_v, onN_c, onN_a, onB_t, onB_f, wantedA, astep, Env.val, Env.vals, Env.put, Env.set, Env.get, envFrom, Env.keep, afaddr, aun, AVal.cells, Option.bind_eq_bind, Option.bind_some, Option.pure_def, Nat.reduceEqDiff, Nat.succ_ne_self, if_true, if_false, reduceIte, Option.map_some, List.drop_zero, List.drop_succ_cons, List.length_cons, List.length_nil, Nat.reduceAdd, Nat.reduceLeDiff, Nat.zero_le, Nat.le_refl, List.getElem?_cons_zero, List.getElem?_cons_succ, beq_self_eq_true, Bool.false_eq_true, aundef, Nat.zero_add, Nat.add_zero, Bool.not_true, Bool.not_false, Bool.xor_false, Bool.false_xor, Bool.true_xor, Bool.xor_true, and_self, true_and, and_true]
      have hf : L.findIdx? (fun p => p.1.toList == s.toList) = some i := by
        rw [List.findIdx?_eq_some_iff_getElem]
        refine ⟨hlt, ?_, fun j hj => ?_⟩
        · rw [List.getElem?_eq_getElem hlt] at hp; injection hp with hp; rw [hp]; exact hb
        · have hjl : j < L.length := by omega
          rw [hno j hj L[j] (List.getElem?_eq_getElem hjl)]; simp
      refine DR.ret ⟨_, by simp [aresult, ares, Env.get] <;> rfl, ?_, hn, hs⟩
      rw [hf]; exact ⟨rfl, hat⟩
    | false =>
      refine DR.no rfl ?_
      repeat' (first | refine DR.seq ?_ | refine DR.block ?_ | refine DR.skip ?_ | refine DR.inBlock ?_)
      refine DR.ops ?_
      have hw : IntKind.i64.wrap ((i : Int) + 1) = ((i + 1 : Nat) : Int) := by
        have := h.len
        exact wrap64 (n := i + 1) (by omega)
      simp only [r17_3, DO_nil, DO_cons, OR'_nil, OR'_cons, onW_t, onW_f, onN_v, onN_c, onN_a, onB_t, onB_f, wantedA, astep, Env.val, Env.vals, Env.put, Env.set, Env.get, envFrom, Env.keep, afaddr, aun, AVal.cells, Option.bind_eq_bind, Option.bind_some, Option.pure_def, Nat.reduceEqDiff, Nat.succ_ne_self, if_true, if_false, reduceIte, Option.map_some, List.drop_zero, List.drop_succ_cons, List.length_cons, List.length_nil, Nat.reduceAdd, Nat.reduceLeDiff, Nat.zero_le, Nat.le_refl, List.getElem?_cons_zero, List.getElem?_cons_succ, beq_self_eq_true, Bool.false_eq_true, aundef, Nat.zero_add, Nat.add_zero, Bool.not_true, Bool.not_false, Bool.xor_false, Bool.false_xor, Bool.true_xor, Bool.xor_true, and_self, true_and, and_true, abin, hw]
      repeat' (first | refine DR.seq ?_ | refine DR.block ?_ | refine DR.skip ?_ | refine DR.inBlock ?_)
      refine DR.inLoop ?_
      refine ih (i + 1) (by omega) fun j hj q hq => ?_
      rcases Nat.lt_or_ge j i with h1 | h1
      · exact hno j h1 q hq
      · obtain rfl : j = i := by omega
        rw [hp] at hq; cases hq; exact hb

theorem g18 {H : AHeap} {r : Nat} {L : List (ByteArray × Int)} {e : TypeId} {x y : AVal} (h : RefAt H r L e x y) (s : Int) :
    DCall Try.prog 18 [.ptr r 0, .int .i64 s] H fun a H' => (match L.findIdx? (fun p => p.2 == s) with
      | none => a = .bool false ∧ ∃ x' y', RefAt H' r L e x' y'
      | some i => a = .bool true ∧ ∃ x' y', RefAt H' r (L.eraseIdx i) e x' y') ∧ H.next ≤ H'.next ∧ ∀ j, j < H.next → j ≠ r → H'.get j = H.get j := by
  refine DCall.of_body (fn := Try.f18) (by kernel_rfl) c18 (by kernel_rfl) (by simp [f18]) ?_
  have hx := load_cell h.blk (o := 0) (v := x) rfl
  have hy := load_cell h.blk (o := 1) (v := y) rfl
  have hl := h.nms.alenT (H' := H)
  rw [List.length_map] at hl
  unfold f18
  simp only []
  repeat' (first | refine DR.seq ?_ | refine DR.block ?_ | refine DR.skip ?_ | refine DR.inBlock ?_)
  refine DR.ops ?_
  simp only [r18_0, DO_nil, DO_cons, OR'_nil, OR'_cons, onW_t, onW_f, onN_v, onN_c, onN_a, onB_t, onB_f, wantedA, astep, Env.val, Env.vals, Env.put, Env.set, Env.get, envFrom, Env.keep, afaddr, aun, AVal.cells, Option.bind_eq_bind, Option.bind_some, Option.pure_def, Nat.reduceEqDiff, Nat.succ_ne_self, if_true, if_false, reduceIte, Option.map_some, List.drop_zero, List.drop_succ_cons, List.length_cons, List.length_nil, Nat.reduceAdd, Nat.reduceLeDiff, Nat.zero_le, Nat.le_refl, List.getElem?_cons_zero, List.getElem?_cons_succ, beq_self_eq_true, Bool.false_eq_true, aundef, Nat.zero_add, Nat.add_zero, Bool.not_true, Bool.not_false, Bool.xor_false, Bool.false_xor, Bool.true_xor, Bool.xor_true, and_self, true_and, and_true]
  repeat' (first | refine DR.seq ?_ | refine DR.block ?_ | refine DR.skip ?_ | refine DR.inBlock ?_)
  refine DR.ops ?_
  simp only [r18_1, DO_nil, DO_cons, OR'_nil, OR'_cons, onW_t, onW_f, onN_v, onN_c, onN_a, onB_t, onB_f, wantedA, astep, Env.val, Env.vals, Env.put, Env.set, Env.get, envFrom, Env.keep, afaddr, aun, AVal.cells, Option.bind_eq_bind, Option.bind_some, Option.pure_def, Nat.reduceEqDiff, Nat.succ_ne_self, if_true, if_false, reduceIte, Option.map_some, List.drop_zero, List.drop_succ_cons, List.length_cons, List.length_nil, Nat.reduceAdd, Nat.reduceLeDiff, Nat.zero_le, Nat.le_refl, List.getElem?_cons_zero, List.getElem?_cons_succ, beq_self_eq_true, Bool.false_eq_true, aundef, Nat.zero_add, Nat.add_zero, Bool.not_true, Bool.not_false, Bool.xor_false, Bool.false_xor, Bool.true_xor, Bool.xor_true, and_self, true_and, and_true]
  refine DR.block ?_
  refine DR.loop ?_
  refine (?_ : ∀ (d i : Nat), i + d = L.length → (∀ j, j < i → ∀ p, L[j]? = some p → (p.2 == s) = false) → DR Try.prog (kof k18) 27 [.code l18_0, .inLoop l18_0, .inBlock 0, .code ((ACode.region false r18_7 [4]).seq .ret)] [(0, .ptr r 0), (1, .int .i64 s), (5, .int .i64 i)] H _) L.length 0 (by omega) (fun j hj => by omega)
  intro d
  induction d with
  | zero =>
    intro i hi hno
    obtain rfl : i = L.length := by omega
    repeat' (first | refine DR.seq ?_ | refine DR.block ?_ | refine DR.skip ?_ | refine DR.inBlock ?_)
    refine DR.ops ?_
    simp only [r18_2, DO_nil, DO_cons, OR'_nil, OR'_cons, onW_t, onW_f, onN_v, onN_c, onN_a, onB_t, onB_f, wantedA, astep, Env.val, Env.vals, Env.put, Env.set, Env.get, envFrom, Env.keep, afaddr, aun, AVal.cells, Option.bind_eq_bind, Option.bind_some, Option.pure_def, Nat.reduceEqDiff, Nat.succ_ne_self, if_true, if_false, reduceIte, Option.map_some, List.drop_zero, List.drop_succ_cons, List.length_cons, List.length_nil, Nat.reduceAdd, Nat.reduceLeDiff, Nat.zero_le, Nat.le_refl, List.getElem?_cons_zero, List.getElem?_cons_succ, beq_self_eq_true, Bool.false_eq_true, aundef, Nat.zero_add, Nat.add_zero, Bool.not_true, Bool.not_false, Bool.xor_false, Bool.false_xor, Bool.true_xor, Bool.xor_true, and_self, true_and, and_true, hx, hl, abin, Int.lt_irrefl, decide_false]
    refine DR.no rfl ?_
    refine DR.exit rfl ?_
    repeat' (first | refine DR.seq ?_ | refine DR.block ?_ | refine DR.skip ?_ | refine DR.inBlock ?_)
    refine DR.ops ?_
    simp only [r18_7, DO_nil, DO_cons, OR'_nil, OR'_cons, onW_t, onW_f, onN_v, onN_c, onN_a, onB_t, onB_f, wantedA, astep, Env.val, Env.vals, Env.put, Env.set, Env.get, envFrom, Env.keep, afaddr, aun, AVal.cells, Option.bind_eq_bind, Option.bind_some, Option.pure_def, Nat.reduceEqDiff, Nat.succ_ne_self, if_true, if_false, reduceIte, Option.map_some, List.drop_zero, List.drop_succ_cons, List.length_cons, List.length_nil, Nat.reduceAdd, Nat.reduceLeDiff, Nat.zero_le, Nat.le_refl, List.getElem?_cons_zero, List.getElem?_cons_succ, beq_self_eq_true, Bool.false_eq_true, aundef, Nat.zero_add, Nat.add_zero, Bool.not_true, Bool.not_false, Bool.xor_false, Bool.false_xor, Bool.true_xor, Bool.xor_true, and_self, true_and, and_true]
    have hf : L.findIdx? (fun p => p.2 == s) = none := by
      rw [List.findIdx?_eq_none_iff]
      intro p hp
      obtain ⟨j, hj⟩ := List.mem_iff_getElem?.mp hp
      exact hno j (List.getElem?_eq_some_iff.mp hj).1 p hj
    refine DR.ret ⟨_, by simp [aresult, ares, Env.get] <;> rfl, ?_, Nat.le_refl _, fun _ _ _ => rfl⟩
    rw [hf]; exact ⟨rfl, x, y, h⟩
  | succ d ih =>
    intro i hi hno
    have hlt : i < L.length := by omega
    obtain ⟨p, hp⟩ : ∃ p, L[i]? = some p := ⟨_, List.getElem?_eq_getElem hlt⟩
    have ha := h.pds.addr H (k := .i64) (i := i) (by simpa using hlt)
    have hld := h.pds.load (i := i) (v := .int .i64 p.2) (by simp [hp])
    repeat' (first | refine DR.seq ?_ | refine DR.block ?_ | refine DR.skip ?_ | refine DR.inBlock ?_)
    refine DR.ops ?_
    have hcmp : decide ((i : Int) < (L.length : Int)) = true := by simp; omega
    simp only [r18_2, DO_nil, DO_cons, OR'_nil, OR'_cons, onW_t, onW_f, onN_v, onN_c, onN_a, onB_t, onB_f, wantedA, astep, Env.val, Env.vals, Env.put, Env.set, Env.get, envFrom, Env.keep, afaddr, aun, AVal.cells, Option.bind_eq_bind, Option.bind_some, Option.pure_def, Nat.reduceEqDiff, Nat.succ_ne_self, if_true, if_false, reduceIte, Option.map_some, List.drop_zero, List.drop_succ_cons, List.length_cons, List.length_nil, Nat.reduceAdd, Nat.reduceLeDiff, Nat.zero_le, Nat.le_refl, List.getElem?_cons_zero, List.getElem?_cons_succ, beq_self_eq_true, Bool.false_eq_true, aundef, Nat.zero_add, Nat.add_zero, Bool.not_true, Bool.not_false, Bool.xor_false, Bool.false_xor, Bool.true_xor, Bool.xor_true, and_self, true_and, and_true, hx, hl, abin, hcmp]
    refine DR.yes rfl ?_
    repeat' (first | refine DR.seq ?_ | refine DR.block ?_ | refine DR.skip ?_ | refine DR.inBlock ?_)
    refine DR.ops ?_
    simp only [r18_4, DO_nil, DO_cons, OR'_nil, OR'_cons, onW_t, onW_f, onN_v, onN_c, onN_a, onB_t, onB_f, wantedA, astep, Env.val, Env.vals, Env.put, Env.set, Env.get, envFrom, Env.keep, afaddr, aun, AVal.cells, Option.bind_eq_bind, Option.bind_some, Option.pure_def, Nat.reduceEqDiff, Nat.succ_ne_self, if_true, if_false, reduceIte, Option.map_some, List.drop_zero, List.drop_succ_cons, List.length_cons, List.length_nil, Nat.reduceAdd, Nat.reduceLeDiff, Nat.zero_le, Nat.le_refl, List.getElem?_cons_zero, List.getElem?_cons_succ, beq_self_eq_true, Bool.false_eq_true, aundef, Nat.zero_add, Nat.add_zero, Bool.not_true, Bool.not_false, Bool.xor_false, Bool.false_xor, Bool.true_xor, Bool.xor_true, and_self, true_and, and_true, hy, ha, hld, abin]
    cases hb : p.2 == s with
    | true =>
      refine DR.yes rfl ?_
      repeat' (first | refine DR.seq ?_ | refine DR.block ?_ | refine DR.skip ?_ | refine DR.inBlock ?_)
      refine DR.ops ?_
      simp only [r18_5, DO_nil, DO_cons, OR'_nil, OR'_cons, onW_t, onW_f, onN_v, onN_c, onN_a, onB_t, onB_f, wantedA, astep, Env.val, Env.vals, Env.put, Env.set, Env.get, envFrom, Env.keep, afaddr, aun, AVal.cells, Option.bind_eq_bind, Option.bind_some, Option.pure_def, Nat.reduceEqDiff, Nat.succ_ne_self, if_true, if_false, reduceIte, Option.map_some, List.drop_zero, List.drop_succ_cons, List.length_cons, List.length_nil, Nat.reduceAdd, Nat.reduceLeDiff, Nat.zero_le, Nat.le_refl, List.getElem?_cons_zero, List.getElem?_cons_succ, beq_self_eq_true, Bool.false_eq_true, aundef, Nat.zero_add, Nat.add_zero, Bool.not_true, Bool.not_false, Bool.xor_false, Bool.false_xor, Bool.true_xor, Bool.xor_true, and_self, true_and, and_true]
      refine (g20 h hlt).mono ?_
      rintro a H' ⟨rfl, hat, hn, hs⟩
      simp only [DO_nil, DO_cons, OR'_nil, OR'_cons, onW_t, onW_f, onN_v, onN_c, onN_a, onB_t, onB_f, wantedA, astep, Env.val, Env.vals, Env.put, Env.set, Env.get, envFrom, Env.keep, afaddr, aun, AVal.cells, Option.bind_eq_bind, Option.bind_some, Option.pure_def, Nat.reduceEqDiff, Nat.succ_ne_self, if_true, if_false, reduceIte, Option.map_some, List.drop_zero, List.drop_succ_cons, List.length_cons, List.length_nil, Nat.reduceAdd, Nat.reduceLeDiff, Nat.zero_le, Nat.le_refl, List.getElem?_cons_zero, List.getElem?_cons_succ, beq_self_eq_true, Bool.false_eq_true, aundef, Nat.zero_add, Nat.add_zero, Bool.not_true, Bool.not_false, Bool.xor_false, Bool.false_xor, Bool.true_xor, Bool.xor_true, and_self, true_and, and_true]
      repeat' (first | refine DR.seq ?_ | refine DR.block ?_ | refine DR.skip ?_ | refine DR.inBlock ?_)
      refine DR.ops ?_
      simp only [r18_6, DO_nil, DO_cons, OR'_nil, OR'_cons, onW_t, onW_f, onN_v, onN_c, onN_a, onB_t, onB_f, wantedA, astep, Env.val, Env.vals, Env.put, Env.set, Env.get, envFrom, Env.keep, afaddr, aun, AVal.cells, Option.bind_eq_bind, Option.bind_some, Option.pure_def, Nat.reduceEqDiff, Nat.succ_ne_self, if_true, if_false, reduceIte, Option.map_some, List.drop_zero, List.drop_succ_cons, List.length_cons, List.length_nil, Nat.reduceAdd, Nat.reduceLeDiff, Nat.zero_le, Nat.le_refl, List.getElem?_cons_zero, List.getElem?_cons_succ, beq_self_eq_true, Bool.false_eq_true, aundef, Nat.zero_add, Nat.add_zero, Bool.not_true, Bool.not_false, Bool.xor_false, Bool.false_xor, Bool.true_xor, Bool.xor_true, and_self, true_and, and_true]
      have hf : L.findIdx? (fun p => p.2 == s) = some i := by
        rw [List.findIdx?_eq_some_iff_getElem]
        refine ⟨hlt, ?_, fun j hj => ?_⟩
        · rw [List.getElem?_eq_getElem hlt] at hp; injection hp with hp; rw [hp]; exact hb
        · have hjl : j < L.length := by omega
          rw [hno j hj L[j] (List.getElem?_eq_getElem hjl)]; simp
      refine DR.ret ⟨_, by simp [aresult, ares, Env.get] <;> rfl, ?_, hn, hs⟩
      rw [hf]; exact ⟨rfl, hat⟩
    | false =>
      refine DR.no rfl ?_
      repeat' (first | refine DR.seq ?_ | refine DR.block ?_ | refine DR.skip ?_ | refine DR.inBlock ?_)
      refine DR.ops ?_
      have hw : IntKind.i64.wrap ((i : Int) + 1) = ((i + 1 : Nat) : Int) := by
        have := h.len
        exact wrap64 (n := i + 1) (by omega)
      simp only [r18_3, DO_nil, DO_cons, OR'_nil, OR'_cons, onW_t, onW_f, onN_v, onN_c, onN_a, onB_t, onB_f, wantedA, astep, Env.val, Env.vals, Env.put, Env.set, Env.get, envFrom, Env.keep, afaddr, aun, AVal.cells, Option.bind_eq_bind, Option.bind_some, Option.pure_def, Nat.reduceEqDiff, Nat.succ_ne_self, if_true, if_false, reduceIte, Option.map_some, List.drop_zero, List.drop_succ_cons, List.length_cons, List.length_nil, Nat.reduceAdd, Nat.reduceLeDiff, Nat.zero_le, Nat.le_refl, List.getElem?_cons_zero, List.getElem?_cons_succ, beq_self_eq_true, Bool.false_eq_true, aundef, Nat.zero_add, Nat.add_zero, Bool.not_true, Bool.not_false, Bool.xor_false, Bool.false_xor, Bool.true_xor, Bool.xor_true, and_self, true_and, and_true, abin, hw]
      repeat' (first | refine DR.seq ?_ | refine DR.block ?_ | refine DR.skip ?_ | refine DR.inBlock ?_)
      refine DR.inLoop ?_
      refine ih (i + 1) (by omega) fun j hj q hq => ?_
      rcases Nat.lt_or_ge j i with h1 | h1
      · exact hno j h1 q hq
      · obtain rfl : j = i := by omega
        rw [hp] at hq; cases hq; exact hb
end Go.Am.Rn
