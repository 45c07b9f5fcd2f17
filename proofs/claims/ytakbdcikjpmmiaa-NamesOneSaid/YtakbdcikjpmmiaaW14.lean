import Derived.Test.YtakbdcikjpmmiaaW13
set_option linter.unusedVariables false
set_option linter.unusedSimpArgs false
namespace Go.Am.Rn
open Go.Proofs

abbrev ActT := Int × ByteArray × Int
def actCells (a : ActT) : List AVal := [.int .i64 a.1, .str a.2.1, .int .i64 a.2.2]
/-- The play, as it is handed in: looked at only. -/
structure Play (x : AVal) (l : List ActT) : Prop where
  len : ∀ H, alenT H 1 x = some l.length
  at_ : ∀ (i : Nat) a, l[i]? = some a → ∃ y, (∀ H, aiaddr H 3 x (.int .i64 (i : Int)) = some y) ∧ ∀ H, aload H (some 3) y = some (.agg (actCells a))
theorem Play.nils : Play .nils [] := ⟨fun _ => rfl, fun i a h => by simp at h⟩
theorem flat_drop (l : List ActT) : ∀ (i : Nat) a, l[i]? = some a → ((l.flatMap actCells).drop (i * 3)).take 3 = actCells a ∧ i * 3 + 3 ≤ (l.flatMap actCells).length := by
  induction l with
  | nil => intro i a h; simp at h
  | cons b r ih =>
    intro i a h
    cases i with
    | zero => simp at h; subst h; simp [actCells]
    | succ i =>
      simp at h
      obtain ⟨h1, h2⟩ := ih i a h
      have e : (i + 1) * 3 = 3 + i * 3 := by omega
      have hb : (actCells b).length = 3 := rfl
      refine ⟨?_, ?_⟩
      · rw [List.flatMap_cons, e, ← List.drop_drop, List.drop_left' hb]; exact h1
      · rw [List.flatMap_cons, List.length_append, hb]; omega
theorem flat_len (l : List ActT) : (l.flatMap actCells).length = l.length * 3 := by
  induction l with
  | nil => rfl
  | cons b r ih => rw [List.flatMap_cons, List.length_append, ih]; simp [actCells]; omega
theorem Play.ros (l : List ActT) : Play (.ros (l.flatMap actCells) l.length) l := by
  refine ⟨fun _ => rfl, fun i a h => ?_⟩
  obtain ⟨h1, h2⟩ := flat_drop l i a h
  have hi : i < l.length := (List.getElem?_eq_some_iff.mp h).1
  refine ⟨.rop ((l.flatMap actCells).drop (i * 3)), fun H => ?_, fun H => ?_⟩
  · simp only [aiaddr]
    rw [if_pos ⟨by omega, by omega, by rw [flat_len]; omega⟩]; simp
  · have key : ∀ cs : List AVal, aload H (some 3) (.rop cs) = if 3 ≤ cs.length then some (.agg (cs.take 3)) else none := by intro cs; cases cs <;> rfl
    rw [key, h1, if_pos (by rw [List.length_drop]; omega)]

/-- One round of the play. -/
theorem round3 {H : AHeap} {x : AVal} {l : List ActT} (hp : Play x l) (hl1000 : l.length ≤ 1000) {n r m1 m2 : Nat} {A : List Rec} {L : List (ByteArray × Int)} {c1 c2 : Nat} (h : Both H n r m1 m2 A L c1 c2) {i : Nat} {a : ActT} (hi : l[i]? = some a) (hroom : L.length ≤ i) {k : List AItem} {Q : Env → AHeap → Prop}
    (hgo : ∀ A' L' c1' c2' H', Both H' n r m1 m2 A' L' c1' c2' → L'.length ≤ L.length + 1 → DR Try.prog (kof k3) 136 (.inLoop l3_0 :: k) [(0, x), (3, .ptr n 0), (4, .ptr r 0), (5, .int .i64 ((i + 1 : Nat) : Int))] H' Q) :
    DR Try.prog (kof k3) 136 (.code l3_0 :: .inLoop l3_0 :: k) [(0, x), (3, .ptr n 0), (4, .ptr r 0), (5, .int .i64 (i : Int))] H Q := by
  obtain ⟨y, hy, hld⟩ := hp.at_ i a hi
  obtain ⟨ak, nm, ap⟩ := a
  have hil : i < l.length := (List.getElem?_eq_some_iff.mp hi).1
  have hl := hp.len
  have hcmp : decide ((i : Int) < (l.length : Int)) = true := by simp; omega
  repeat' (first | refine DR.seq ?_ | refine DR.block ?_ | refine DR.skip ?_ | refine DR.inBlock ?_)
  refine DR.ops ?_
  simp only [r3_10, DO_nil, DO_cons, OR'_nil, OR'_cons, onW_t, onW_f, onN_v, onN_c, onN_a, onB_t, onB_f, wantedA, astep, Env.val, Env.vals, Env.put, Env.set, Env.get, envFrom, Env.keep, afaddr, aun, AVal.cells, Option.bind_eq_bind, Option.bind_some, Option.pure_def, Nat.reduceEqDiff, Nat.succ_ne_self, if_true, if_false, reduceIte, Option.map_some, List.drop_zero, List.drop_succ_cons, List.length_cons, List.length_nil, Nat.reduceAdd, Nat.reduceLeDiff, Nat.zero_le, Nat.le_refl, List.getElem?_cons_zero, List.getElem?_cons_succ, beq_self_eq_true, Bool.false_eq_true, aundef, Nat.zero_add, Nat.add_zero, Bool.not_true, Bool.not_false, Bool.xor_false, Bool.false_xor, Bool.true_xor, Bool.xor_true, and_self, true_and, and_true, hl, abin, hcmp]
  refine DR.yes rfl ?_
  repeat' (first | refine DR.seq ?_ | refine DR.block ?_ | refine DR.skip ?_ | refine DR.inBlock ?_)
  refine DR.ops ?_
  obtain ⟨H1, hH1⟩ : ∃ H1, H1 = H.push (.cells 32 [.int .i64 0, .str ⟨#[]⟩, .int .i64 0]) := ⟨_, rfl⟩
  have g1 : H1.get H.next = some (.cells 32 [.int .i64 0, .str ⟨#[]⟩, .int .i64 0]) := by rw [hH1, AHeap.get_push, if_pos rfl]
  obtain ⟨H2, hH2⟩ : ∃ H2, H2 = H1.set H.next (.cells 32 [.int .i64 ak, .str nm, .int .i64 ap]) := ⟨_, rfl⟩
  have g2 : H2.get H.next = some (.cells 32 [.int .i64 ak, .str nm, .int .i64 ap]) := by rw [hH2, AHeap.get_set, if_pos rfl, if_pos (AHeap.get_lt g1)]
  have hst : astore H1 3 (.ptr H.next 0) (.agg [.int .i64 ak, .str nm, .int .i64 ap]) = some H2 := by
    simp [astore, g1, AVal.cells, ones, AVal.one, aput, hH2]
  have f2 : ∀ j, j < H.next → H2.get j = H.get j := fun j hj => by rw [hH2, AHeap.get_set, if_neg (by omega), hH1, AHeap.get_push, if_neg (by omega)]
  have n2 : H2.next = H.next + 1 := by rw [hH2, hH1]; rfl
  have hb2 := h.push f2
  simp only [actCells] at hld
  simp only [r3_12, DO_nil, DO_cons, OR'_nil, OR'_cons, onW_t, onW_f, onN_v, onN_c, onN_a, onB_t, onB_f, wantedA, astep, Env.val, Env.vals, Env.put, Env.set, Env.get, envFrom, Env.keep, afaddr, aun, AVal.cells, Option.bind_eq_bind, Option.bind_some, Option.pure_def, Nat.reduceEqDiff, Nat.succ_ne_self, if_true, if_false, reduceIte, Option.map_some, List.drop_zero, List.drop_succ_cons, List.length_cons, List.length_nil, Nat.reduceAdd, Nat.reduceLeDiff, Nat.zero_le, Nat.le_refl, List.getElem?_cons_zero, List.getElem?_cons_succ, beq_self_eq_true, Bool.false_eq_true, aundef, Nat.zero_add, Nat.add_zero, Bool.not_true, Bool.not_false, Bool.xor_false, Bool.false_xor, Bool.true_xor, Bool.xor_true, and_self, true_and, and_true, hy, hld, ← hH1, hst]
  repeat' (first | refine DR.seq ?_ | refine DR.block ?_ | refine DR.skip ?_ | refine DR.inBlock ?_)
  refine DR.ops ?_
  have hl3 : aload H2 (some 3) (.ptr H.next 0) = some (.agg [.int .i64 ak, .str nm, .int .i64 ap]) := by simp [aload, cellsAt, g2]
  simp only [r3_13, DO_nil, DO_cons, OR'_nil, OR'_cons, onW_t, onW_f, onN_v, onN_c, onN_a, onB_t, onB_f, wantedA, astep, Env.val, Env.vals, Env.put, Env.set, Env.get, envFrom, Env.keep, afaddr, aun, AVal.cells, Option.bind_eq_bind, Option.bind_some, Option.pure_def, Nat.reduceEqDiff, Nat.succ_ne_self, if_true, if_false, reduceIte, Option.map_some, List.drop_zero, List.drop_succ_cons, List.length_cons, List.length_nil, Nat.reduceAdd, Nat.reduceLeDiff, Nat.zero_le, Nat.le_refl, List.getElem?_cons_zero, List.getElem?_cons_succ, beq_self_eq_true, Bool.false_eq_true, aundef, Nat.zero_add, Nat.add_zero, Bool.not_true, Bool.not_false, Bool.xor_false, Bool.false_xor, Bool.true_xor, Bool.xor_true, and_self, true_and, and_true, hl3]
  refine (g7 hb2 ak nm ap (by omega)).mono ?_
  rintro b H3 ⟨rfl, ⟨A', L', c1', c2', hb3, hle⟩, n3, f3⟩
  simp only [DO_nil, DO_cons, OR'_nil, OR'_cons, onW_t, onW_f, onN_v, onN_c, onN_a, onB_t, onB_f, wantedA, astep, Env.val, Env.vals, Env.put, Env.set, Env.get, envFrom, Env.keep, afaddr, aun, AVal.cells, Option.bind_eq_bind, Option.bind_some, Option.pure_def, Nat.reduceEqDiff, Nat.succ_ne_self, if_true, if_false, reduceIte, Option.map_some, List.drop_zero, List.drop_succ_cons, List.length_cons, List.length_nil, Nat.reduceAdd, Nat.reduceLeDiff, Nat.zero_le, Nat.le_refl, List.getElem?_cons_zero, List.getElem?_cons_succ, beq_self_eq_true, Bool.false_eq_true, aundef, Nat.zero_add, Nat.add_zero, Bool.not_true, Bool.not_false, Bool.xor_false, Bool.false_xor, Bool.true_xor, Bool.xor_true, and_self, true_and, and_true]
  refine DR.no rfl ?_
  have lt0 : H.next < H2.next := by omega
  have hm1 : H.next ≠ m1 := by have := AHeap.get_lt h.nam.mp1; omega
  have hm2 : H.next ≠ m2 := by have := AHeap.get_lt h.nam.mp2; omega
  obtain ⟨x0, y0, hr0⟩ := h.ref
  have hr : H.next ≠ r := by have := AHeap.get_lt hr0.blk; omega
  have g3' : H3.get H.next = some (.cells 32 [.int .i64 ak, .str nm, .int .i64 ap]) := (f3 _ lt0 hm1 hm2 hr).trans g2
  have l1 := load_cell g3' (o := 1) (v := .str nm) rfl
  have l2 := load_cell g3' (o := 2) (v := .int .i64 ap) rfl
  obtain ⟨x3, y3, hr3⟩ := hb3.ref
  have e1 := hb3.same.whose nm
  have e2 := hb3.same.ofp ap
  obtain ⟨v1, b1, w1⟩ := nwhose_form A' nm
  obtain ⟨v2, b2, w2⟩ := nof_form A' ap
  rw [w1] at e1
  rw [w2] at e2
  repeat' (first | refine DR.seq ?_ | refine DR.block ?_ | refine DR.skip ?_ | refine DR.inBlock ?_)
  refine DR.ops ?_
  simp only [r3_15, DO_nil, DO_cons, OR'_nil, OR'_cons, onW_t, onW_f, onN_v, onN_c, onN_a, onB_t, onB_f, wantedA, astep, Env.val, Env.vals, Env.put, Env.set, Env.get, envFrom, Env.keep, afaddr, aun, AVal.cells, Option.bind_eq_bind, Option.bind_some, Option.pure_def, Nat.reduceEqDiff, Nat.succ_ne_self, if_true, if_false, reduceIte, Option.map_some, List.drop_zero, List.drop_succ_cons, List.length_cons, List.length_nil, Nat.reduceAdd, Nat.reduceLeDiff, Nat.zero_le, Nat.le_refl, List.getElem?_cons_zero, List.getElem?_cons_succ, beq_self_eq_true, Bool.false_eq_true, aundef, Nat.zero_add, Nat.add_zero, Bool.not_true, Bool.not_false, Bool.xor_false, Bool.false_xor, Bool.true_xor, Bool.xor_true, and_self, true_and, and_true, l1]
  refine (g8 hb3.nam nm).mono ?_
  rintro b H3 ⟨rfl, rfl⟩
  simp only [w1, DO_nil, DO_cons, OR'_nil, OR'_cons, onW_t, onW_f, onN_v, onN_c, onN_a, onB_t, onB_f, wantedA, astep, Env.val, Env.vals, Env.put, Env.set, Env.get, envFrom, Env.keep, afaddr, aun, AVal.cells, Option.bind_eq_bind, Option.bind_some, Option.pure_def, Nat.reduceEqDiff, Nat.succ_ne_self, if_true, if_false, reduceIte, Option.map_some, List.drop_zero, List.drop_succ_cons, List.length_cons, List.length_nil, Nat.reduceAdd, Nat.reduceLeDiff, Nat.zero_le, Nat.le_refl, List.getElem?_cons_zero, List.getElem?_cons_succ, beq_self_eq_true, Bool.false_eq_true, aundef, Nat.zero_add, Nat.add_zero, Bool.not_true, Bool.not_false, Bool.xor_false, Bool.false_xor, Bool.true_xor, Bool.xor_true, and_self, true_and, and_true]
  repeat' (first | refine DR.seq ?_ | refine DR.block ?_ | refine DR.skip ?_ | refine DR.inBlock ?_)
  refine DR.ops ?_
  simp only [r3_16, DO_nil, DO_cons, OR'_nil, OR'_cons, onW_t, onW_f, onN_v, onN_c, onN_a, onB_t, onB_f, wantedA, astep, Env.val, Env.vals, Env.put, Env.set, Env.get, envFrom, Env.keep, afaddr, aun, AVal.cells, Option.bind_eq_bind, Option.bind_some, Option.pure_def, Nat.reduceEqDiff, Nat.succ_ne_self, if_true, if_false, reduceIte, Option.map_some, List.drop_zero, List.drop_succ_cons, List.length_cons, List.length_nil, Nat.reduceAdd, Nat.reduceLeDiff, Nat.zero_le, Nat.le_refl, List.getElem?_cons_zero, List.getElem?_cons_succ, beq_self_eq_true, Bool.false_eq_true, aundef, Nat.zero_add, Nat.add_zero, Bool.not_true, Bool.not_false, Bool.xor_false, Bool.false_xor, Bool.true_xor, Bool.xor_true, and_self, true_and, and_true, l1]
  refine (g9 hr3 nm).mono ?_
  rintro b H3 ⟨rfl, rfl⟩
  simp only [← e1, DO_nil, DO_cons, OR'_nil, OR'_cons, onW_t, onW_f, onN_v, onN_c, onN_a, onB_t, onB_f, wantedA, astep, Env.val, Env.vals, Env.put, Env.set, Env.get, envFrom, Env.keep, afaddr, aun, AVal.cells, Option.bind_eq_bind, Option.bind_some, Option.pure_def, Nat.reduceEqDiff, Nat.succ_ne_self, if_true, if_false, reduceIte, Option.map_some, List.drop_zero, List.drop_succ_cons, List.length_cons, List.length_nil, Nat.reduceAdd, Nat.reduceLeDiff, Nat.zero_le, Nat.le_refl, List.getElem?_cons_zero, List.getElem?_cons_succ, beq_self_eq_true, Bool.false_eq_true, aundef, Nat.zero_add, Nat.add_zero, Bool.not_true, Bool.not_false, Bool.xor_false, Bool.false_xor, Bool.true_xor, Bool.xor_true, and_self, true_and, and_true]
  repeat' (first | refine DR.seq ?_ | refine DR.block ?_ | refine DR.skip ?_ | refine DR.inBlock ?_)
  refine DR.ops ?_
  simp only [r3_17, DO_nil, DO_cons, OR'_nil, OR'_cons, onW_t, onW_f, onN_v, onN_c, onN_a, onB_t, onB_f, wantedA, astep, Env.val, Env.vals, Env.put, Env.set, Env.get, envFrom, Env.keep, afaddr, aun, AVal.cells, Option.bind_eq_bind, Option.bind_some, Option.pure_def, Nat.reduceEqDiff, Nat.succ_ne_self, if_true, if_false, reduceIte, Option.map_some, List.drop_zero, List.drop_succ_cons, List.length_cons, List.length_nil, Nat.reduceAdd, Nat.reduceLeDiff, Nat.zero_le, Nat.le_refl, List.getElem?_cons_zero, List.getElem?_cons_succ, beq_self_eq_true, Bool.false_eq_true, aundef, Nat.zero_add, Nat.add_zero, Bool.not_true, Bool.not_false, Bool.xor_false, Bool.false_xor, Bool.true_xor, Bool.xor_true, and_self, true_and, and_true, l2]
  refine (g10 hb3.nam ap).mono ?_
  rintro b H3 ⟨rfl, rfl⟩
  simp only [w2, DO_nil, DO_cons, OR'_nil, OR'_cons, onW_t, onW_f, onN_v, onN_c, onN_a, onB_t, onB_f, wantedA, astep, Env.val, Env.vals, Env.put, Env.set, Env.get, envFrom, Env.keep, afaddr, aun, AVal.cells, Option.bind_eq_bind, Option.bind_some, Option.pure_def, Nat.reduceEqDiff, Nat.succ_ne_self, if_true, if_false, reduceIte, Option.map_some, List.drop_zero, List.drop_succ_cons, List.length_cons, List.length_nil, Nat.reduceAdd, Nat.reduceLeDiff, Nat.zero_le, Nat.le_refl, List.getElem?_cons_zero, List.getElem?_cons_succ, beq_self_eq_true, Bool.false_eq_true, aundef, Nat.zero_add, Nat.add_zero, Bool.not_true, Bool.not_false, Bool.xor_false, Bool.false_xor, Bool.true_xor, Bool.xor_true, and_self, true_and, and_true]
  repeat' (first | refine DR.seq ?_ | refine DR.block ?_ | refine DR.skip ?_ | refine DR.inBlock ?_)
  refine DR.ops ?_
  simp only [r3_18, DO_nil, DO_cons, OR'_nil, OR'_cons, onW_t, onW_f, onN_v, onN_c, onN_a, onB_t, onB_f, wantedA, astep, Env.val, Env.vals, Env.put, Env.set, Env.get, envFrom, Env.keep, afaddr, aun, AVal.cells, Option.bind_eq_bind, Option.bind_some, Option.pure_def, Nat.reduceEqDiff, Nat.succ_ne_self, if_true, if_false, reduceIte, Option.map_some, List.drop_zero, List.drop_succ_cons, List.length_cons, List.length_nil, Nat.reduceAdd, Nat.reduceLeDiff, Nat.zero_le, Nat.le_refl, List.getElem?_cons_zero, List.getElem?_cons_succ, beq_self_eq_true, Bool.false_eq_true, aundef, Nat.zero_add, Nat.add_zero, Bool.not_true, Bool.not_false, Bool.xor_false, Bool.false_xor, Bool.true_xor, Bool.xor_true, and_self, true_and, and_true, l2]
  refine (g11 hr3 ap).mono ?_
  rintro b H3 ⟨rfl, rfl⟩
  simp only [← e2, DO_nil, DO_cons, OR'_nil, OR'_cons, onW_t, onW_f, onN_v, onN_c, onN_a, onB_t, onB_f, wantedA, astep, Env.val, Env.vals, Env.put, Env.set, Env.get, envFrom, Env.keep, afaddr, aun, AVal.cells, Option.bind_eq_bind, Option.bind_some, Option.pure_def, Nat.reduceEqDiff, Nat.succ_ne_self, if_true, if_false, reduceIte, Option.map_some, List.drop_zero, List.drop_succ_cons, List.length_cons, List.length_nil, Nat.reduceAdd, Nat.reduceLeDiff, Nat.zero_le, Nat.le_refl, List.getElem?_cons_zero, List.getElem?_cons_succ, beq_self_eq_true, Bool.false_eq_true, aundef, Nat.zero_add, Nat.add_zero, Bool.not_true, Bool.not_false, Bool.xor_false, Bool.false_xor, Bool.true_xor, Bool.xor_true, and_self, true_and, and_true]
  repeat' (first | refine DR.seq ?_ | refine DR.block ?_ | refine DR.skip ?_ | refine DR.inBlock ?_)
  refine DR.ops ?_
  simp only [r3_19, DO_nil, DO_cons, OR'_nil, OR'_cons, onW_t, onW_f, onN_v, onN_c, onN_a, onB_t, onB_f, wantedA, astep, Env.val, Env.vals, Env.put, Env.set, Env.get, envFrom, Env.keep, afaddr, aun, AVal.cells, Option.bind_eq_bind, Option.bind_some, Option.pure_def, Nat.reduceEqDiff, Nat.succ_ne_self, if_true, if_false, reduceIte, Option.map_some, List.drop_zero, List.drop_succ_cons, List.length_cons, List.length_nil, Nat.reduceAdd, Nat.reduceLeDiff, Nat.zero_le, Nat.le_refl, List.getElem?_cons_zero, List.getElem?_cons_succ, beq_self_eq_true, Bool.false_eq_true, aundef, Nat.zero_add, Nat.add_zero, Bool.not_true, Bool.not_false, Bool.xor_false, Bool.false_xor, Bool.true_xor, Bool.xor_true, and_self, true_and, and_true, abin, bne_self_eq_false, Bool.true_beq, Bool.false_beq]
  refine DR.no rfl ?_
  repeat' (first | refine DR.seq ?_ | refine DR.block ?_ | refine DR.skip ?_ | refine DR.inBlock ?_)
  refine DR.ops ?_
  have hw : IntKind.i64.wrap ((i : Int) + 1) = ((i + 1 : Nat) : Int) := wrap64 (n := i + 1) (by omega)
  simp only [r3_11, DO_nil, DO_cons, OR'_nil, OR'_cons, onW_t, onW_f, onN_v, onN_c, onN_a, onB_t, onB_f, wantedA, astep, Env.val, Env.vals, Env.put, Env.set, Env.get, envFrom, Env.keep, afaddr, aun, AVal.cells, Option.bind_eq_bind, Option.bind_some, Option.pure_def, Nat.reduceEqDiff, Nat.succ_ne_self, if_true, if_false, reduceIte, Option.map_some, List.drop_zero, List.drop_succ_cons, List.length_cons, List.length_nil, Nat.reduceAdd, Nat.reduceLeDiff, Nat.zero_le, Nat.le_refl, List.getElem?_cons_zero, List.getElem?_cons_succ, beq_self_eq_true, Bool.false_eq_true, aundef, Nat.zero_add, Nat.add_zero, Bool.not_true, Bool.not_false, Bool.xor_false, Bool.false_xor, Bool.true_xor, Bool.xor_true, and_self, true_and, and_true, abin, hw]
  exact hgo _ _ _ _ _ hb3 hle
theorem refNew {H : AHeap} {r : Nat} (h : H.get r = some (.cells 30 [.nils, .nils])) : RefAt H r [] 30 .nils .nils :=
  ⟨h, Row.nils _ _, Row.nils _ _, by simp [rid], by simp [rid], by simp⟩
theorem sameNew : Same [] [] := ⟨List.Perm.refl _, List.Pairwise.nil, by simp, by simp, fun a ha => by cases ha⟩
/-- All rounds. -/
theorem rounds3 {x : AVal} {l : List ActT} (hp : Play x l) (hl1000 : l.length ≤ 1000) {n r m1 m2 : Nat} {k k' : List AItem} {Q : Env → AHeap → Prop} (hk : aexitTo 0 k = some k')
    (hend : ∀ A' L' c1' c2' H', Both H' n r m1 m2 A' L' c1' c2' → L'.length ≤ 1000 → DR Try.prog (kof k3) 136 k' [(3, .ptr n 0), (4, .ptr r 0)] H' Q) :
    ∀ (d i : Nat) (A : List Rec) (L : List (ByteArray × Int)) (c1 c2 : Nat) (H : AHeap), i + d = l.length → L.length ≤ i → Both H n r m1 m2 A L c1 c2 → DR Try.prog (kof k3) 136 (.code l3_0 :: .inLoop l3_0 :: k) [(0, x), (3, .ptr n 0), (4, .ptr r 0), (5, .int .i64 (i : Int))] H Q := by
  intro d
  induction d with
  | zero =>
    intro i A L c1 c2 H hi hL hb
    obtain rfl : i = l.length := by omega
    have hl := hp.len
    repeat' (first | refine DR.seq ?_ | refine DR.block ?_ | refine DR.skip ?_ | refine DR.inBlock ?_)
    refine DR.ops ?_
    simp only [r3_10, DO_nil, DO_cons, OR'_nil, OR'_cons, onW_t, onW_f, onN_v, onN_c, onN_a, onB_t, onB_f, wantedA, astep, Env.val, Env.vals, Env.put, Env.set, Env.get, envFrom, Env.keep, afaddr, aun, AVal.cells, Option.bind_eq_bind, Option.bind_some, Option.pure_def, Nat.reduceEqDiff, Nat.succ_ne_self, if_true, if_false, reduceIte, Option.map_some, List.drop_zero, List.drop_succ_cons, List.length_cons, List.length_nil, Nat.reduceAdd, Nat.reduceLeDiff, Nat.zero_le, Nat.le_refl, List.getElem?_cons_zero, List.getElem?_cons_succ, beq_self_eq_true, Bool.false_eq_true, aundef, Nat.zero_add, Nat.add_zero, Bool.not_true, Bool.not_false, Bool.xor_false, Bool.false_xor, Bool.true_xor, Bool.xor_true, and_self, true_and, and_true, hl, abin, Int.lt_irrefl, decide_false]
    refine DR.no rfl ?_
    refine DR.exit (k' := k') (by simpa [aexitTo] using hk) ?_
    refine DR.only [3, 4] ?_
    exact hend _ _ _ _ _ hb (by omega)
  | succ d ih =>
    intro i A L c1 c2 H hi hL hb
    have hlt : i < l.length := by omega
    refine round3 hp hl1000 hb (List.getElem?_eq_getElem hlt) hL fun A' L' c1' c2' H' hb' hle => ?_
    refine DR.inLoop ?_
    exact ih (i + 1) A' L' c1' c2' H' (by omega) (by omega) hb'

theorem spoil {H H' : AHeap} {n r m1 m2 : Nat} {A : List Rec} {L : List (ByteArray × Int)} {c1 c2 : Nat} (hb : Both H n r m1 m2 A L c1 c2) (hs : ∀ j, j < H.next → H'.get j = H.get j) : Both H' n r m1 m2 A L c1 c2 := hb.push hs

def spoiltB : ByteArray := ⟨#[115, 112, 111, 105, 108, 116]⟩
def spoiltTo (L : List (ByteArray × Int)) (i : Nat) : List AVal := List.replicate i (.str spoiltB) ++ (L.map fun p => AVal.str p.1).drop i
theorem spoilt_len {L : List (ByteArray × Int)} {i : Nat} (hi : i ≤ L.length) : (spoiltTo L i).length = L.length := by simp [spoiltTo]; omega
theorem spoilt_at {L : List (ByteArray × Int)} {i : Nat} {p : ByteArray × Int} (hp : L[i]? = some p) : (spoiltTo L i)[i]? = some (.str p.1) := by
  unfold spoiltTo
  rw [List.getElem?_append_right (by simp)]
  simp [hp]
theorem spoilt_set {L : List (ByteArray × Int)} {i : Nat} (hi : i < L.length) : (spoiltTo L i).set i (.str spoiltB) = spoiltTo L (i + 1) := by
  unfold spoiltTo
  rw [List.set_append_right _ _ (by simp)]
  have h1 : i < (L.map fun p => AVal.str p.1).length := by simpa using hi
  rw [List.drop_eq_getElem_cons h1]
  simp [List.replicate_succ']

theorem tail3 {H : AHeap} {n r m1 m2 : Nat} {A : List Rec} {L : List (ByteArray × Int)} {c1 c2 : Nat} (hb : Both H n r m1 m2 A L c1 c2) (hL : L.length ≤ 1000) :
    DR Try.prog (kof k3) 136 [.code (.seq (.region false r3_21 [3, 4, 15]) (.seq (.seq (.region false r3_22 [3, 4, 15, 97]) (.cond (.t 97) (.seq (.region false r3_23 [2]) .ret) .skip)) (.seq (.seq (.region false r3_24 [3, 4, 15, 16]) (.block 2 (.loop l3_1))) (.seq (.region true r3_30 [2]) .ret))))] [(3, .ptr n 0), (4, .ptr r 0)] H
      (fun T' H' => ∃ a, aresult H' T' [ARes.tmp 2] = some a ∧ a = .bool true) := by
  obtain ⟨x, y, hr⟩ := hb.ref
  obtain ⟨an, af⟩ := all_next H L
  have hr1 := hr.frame af
  have l0 := load_cell hr1.blk (o := 0) (v := x) rfl
  have hlx := hr1.nms.alenT (H' := allHeap H L)
  rw [List.length_map] at hlx
  have hla := all_len H (allHeap H L) L
  repeat' (first | refine DR.seq ?_ | refine DR.block ?_ | refine DR.skip ?_ | refine DR.inBlock ?_)
  refine DR.ops ?_
  simp only [r3_21, DO_nil, DO_cons, OR'_nil, OR'_cons, onW_t, onW_f, onN_v, onN_c, onN_a, onB_t, onB_f, wantedA, astep, Env.val, Env.vals, Env.put, Env.set, Env.get, envFrom, Env.keep, afaddr, aun, AVal.cells, Option.bind_eq_bind, Option.bind_some, Option.pure_def, Nat.reduceEqDiff, Nat.succ_ne_self, if_true, if_false, reduceIte, Option.map_some, List.drop_zero, List.drop_succ_cons, List.length_cons, List.length_nil, Nat.reduceAdd, Nat.reduceLeDiff, Nat.zero_le, Nat.le_refl, List.getElem?_cons_zero, List.getElem?_cons_succ, beq_self_eq_true, Bool.false_eq_true, aundef, Nat.zero_add, Nat.add_zero, Bool.not_true, Bool.not_false, Bool.xor_false, Bool.false_xor, Bool.true_xor, Bool.xor_true, and_self, true_and, and_true]
  refine (all_call hb).mono ?_
  rintro a H1 ⟨rfl, rfl⟩
  simp only [DO_nil, DO_cons, OR'_nil, OR'_cons, onW_t, onW_f, onN_v, onN_c, onN_a, onB_t, onB_f, wantedA, astep, Env.val, Env.vals, Env.put, Env.set, Env.get, envFrom, Env.keep, afaddr, aun, AVal.cells, Option.bind_eq_bind, Option.bind_some, Option.pure_def, Nat.reduceEqDiff, Nat.succ_ne_self, if_true, if_false, reduceIte, Option.map_some, List.drop_zero, List.drop_succ_cons, List.length_cons, List.length_nil, Nat.reduceAdd, Nat.reduceLeDiff, Nat.zero_le, Nat.le_refl, List.getElem?_cons_zero, List.getElem?_cons_succ, beq_self_eq_true, Bool.false_eq_true, aundef, Nat.zero_add, Nat.add_zero, Bool.not_true, Bool.not_false, Bool.xor_false, Bool.false_xor, Bool.true_xor, Bool.xor_true, and_self, true_and, and_true]
  repeat' (first | refine DR.seq ?_ | refine DR.block ?_ | refine DR.skip ?_ | refine DR.inBlock ?_)
  refine DR.ops ?_
  simp only [r3_22, DO_nil, DO_cons, OR'_nil, OR'_cons, onW_t, onW_f, onN_v, onN_c, onN_a, onB_t, onB_f, wantedA, astep, Env.val, Env.vals, Env.put, Env.set, Env.get, envFrom, Env.keep, afaddr, aun, AVal.cells, Option.bind_eq_bind, Option.bind_some, Option.pure_def, Nat.reduceEqDiff, Nat.succ_ne_self, if_true, if_false, reduceIte, Option.map_some, List.drop_zero, List.drop_succ_cons, List.length_cons, List.length_nil, Nat.reduceAdd, Nat.reduceLeDiff, Nat.zero_le, Nat.le_refl, List.getElem?_cons_zero, List.getElem?_cons_succ, beq_self_eq_true, Bool.false_eq_true, aundef, Nat.zero_add, Nat.add_zero, Bool.not_true, Bool.not_false, Bool.xor_false, Bool.false_xor, Bool.true_xor, Bool.xor_true, and_self, true_and, and_true, l0, hlx, hla, abin, bne_self_eq_false]
  refine DR.no rfl ?_
  repeat' (first | refine DR.seq ?_ | refine DR.block ?_ | refine DR.skip ?_ | refine DR.inBlock ?_)
  refine DR.ops ?_
  simp only [r3_24, DO_nil, DO_cons, OR'_nil, OR'_cons, onW_t, onW_f, onN_v, onN_c, onN_a, onB_t, onB_f, wantedA, astep, Env.val, Env.vals, Env.put, Env.set, Env.get, envFrom, Env.keep, afaddr, aun, AVal.cells, Option.bind_eq_bind, Option.bind_some, Option.pure_def, Nat.reduceEqDiff, Nat.succ_ne_self, if_true, if_false, reduceIte, Option.map_some, List.drop_zero, List.drop_succ_cons, List.length_cons, List.length_nil, Nat.reduceAdd, Nat.reduceLeDiff, Nat.zero_le, Nat.le_refl, List.getElem?_cons_zero, List.getElem?_cons_succ, beq_self_eq_true, Bool.false_eq_true, aundef, Nat.zero_add, Nat.add_zero, Bool.not_true, Bool.not_false, Bool.xor_false, Bool.false_xor, Bool.true_xor, Bool.xor_true, and_self, true_and, and_true]
  refine DR.block ?_
  refine DR.loop ?_
  refine (?_ : ∀ (d i : Nat) (H' : AHeap), i + d = L.length → (∀ j, j < H.next → H'.get j = H.get j) → H.next ≤ H'.next → (L ≠ [] → H'.get (H.next + 2 * L.length) = some (.cells 9 (spoiltTo L i))) →
    DR Try.prog (kof k3) 136 [.code l3_1, .inLoop l3_1, .inBlock 2, .code (.seq (.region true r3_30 [2]) .ret)] [(3, .ptr n 0), (4, .ptr r 0), (15, allVal H L), (16, .int .i64 (i : Int))] H' _) L.length 0 _ (by omega) af an (fun h => by rw [all_block h]; rfl)
  intro d
  induction d with
  | zero =>
    intro i H' hi hs hn hc
    obtain rfl : i = L.length := by omega
    have hla' := all_len H H' L
    repeat' (first | refine DR.seq ?_ | refine DR.block ?_ | refine DR.skip ?_ | refine DR.inBlock ?_)
    refine DR.ops ?_
    simp only [r3_25, DO_nil, DO_cons, OR'_nil, OR'_cons, onW_t, onW_f, onN_v, onN_c, onN_a, onB_t, onB_f, wantedA, astep, Env.val, Env.vals, Env.put, Env.set, Env.get, envFrom, Env.keep, afaddr, aun, AVal.cells, Option.bind_eq_bind, Option.bind_some, Option.pure_def, Nat.reduceEqDiff, Nat.succ_ne_self, if_true, if_false, reduceIte, Option.map_some, List.drop_zero, List.drop_succ_cons, List.length_cons, List.length_nil, Nat.reduceAdd, Nat.reduceLeDiff, Nat.zero_le, Nat.le_refl, List.getElem?_cons_zero, List.getElem?_cons_succ, beq_self_eq_true, Bool.false_eq_true, aundef, Nat.zero_add, Nat.add_zero, Bool.not_true, Bool.not_false, Bool.xor_false, Bool.false_xor, Bool.true_xor, Bool.xor_true, and_self, true_and, and_true, hla', abin, Int.lt_irrefl, decide_false]
    refine DR.no rfl ?_
    refine DR.exit rfl ?_
    repeat' (first | refine DR.seq ?_ | refine DR.block ?_ | refine DR.skip ?_ | refine DR.inBlock ?_)
    refine DR.draw (by kernel_rfl) d3_30 ?_
    have hb5 := hb.push hs
    obtain ⟨n5, f5⟩ := all_next H' L
    have hb6 := hb5.push f5
    obtain ⟨n6, f6⟩ := all_next (allHeap H' L) L
    have hr5 := (hr.frame hs).frame f5
    have hr6 := hr5.frame f6
    have p5 := load_cell hr5.blk (o := 0) (v := x) rfl
    have p6 := load_cell hr6.blk (o := 0) (v := x) rfl
    have hl5 := all_len H' (allHeap H' L) L
    by_cases hne : L = []
    · have hz : decide ((L.length : Int) = 0) = true := by rw [hne]; rfl
      have hz' : ((L.length : Int) == 0) = true := by rw [hne]; rfl
      simp only [r3_30, m3_30, DO_nil, DO_cons, OR'_nil, OR'_cons, onW_t, onW_f, onN_v, onN_c, onN_a, onB_t, onB_f, wantedA, astep, Env.val, Env.vals, Env.put, Env.set, Env.get, envFrom, Env.keep, afaddr, aun, AVal.cells, Option.bind_eq_bind, Option.bind_some, Option.pure_def, Nat.reduceEqDiff, Nat.succ_ne_self, if_true, if_false, reduceIte, Option.map_some, List.drop_zero, List.drop_succ_cons, List.length_cons, List.length_nil, Nat.reduceAdd, Nat.reduceLeDiff, Nat.zero_le, Nat.le_refl, List.getElem?_cons_zero, List.getElem?_cons_succ, beq_self_eq_true, Bool.false_eq_true, aundef, Nat.zero_add, Nat.add_zero, Bool.not_true, Bool.not_false, Bool.xor_false, Bool.false_xor, Bool.true_xor, Bool.xor_true, and_self, true_and, and_true, DS_nil, DS_cons, seesAll, staysAll, abit, List.getD_cons_zero, List.getD_cons_succ, AOp.quiet, AOp.reads, true_and, and_true, Nat.reducePow, Nat.reduceDiv, Nat.reduceMod, decide_true, decide_false, Nat.reduceEqDiff, reduceCtorEq, and_self, Nat.reduceBEq]
      refine (all_call hb5).mono ?_
      rintro a H5 ⟨rfl, rfl⟩
      simp only [DO_nil, DO_cons, OR'_nil, OR'_cons, onW_t, onW_f, onN_v, onN_c, onN_a, onB_t, onB_f, wantedA, astep, Env.val, Env.vals, Env.put, Env.set, Env.get, envFrom, Env.keep, afaddr, aun, AVal.cells, Option.bind_eq_bind, Option.bind_some, Option.pure_def, Nat.reduceEqDiff, Nat.succ_ne_self, if_true, if_false, reduceIte, Option.map_some, List.drop_zero, List.drop_succ_cons, List.length_cons, List.length_nil, Nat.reduceAdd, Nat.reduceLeDiff, Nat.zero_le, Nat.le_refl, List.getElem?_cons_zero, List.getElem?_cons_succ, beq_self_eq_true, Bool.false_eq_true, aundef, Nat.zero_add, Nat.add_zero, Bool.not_true, Bool.not_false, Bool.xor_false, Bool.false_xor, Bool.true_xor, Bool.xor_true, and_self, true_and, and_true, DS_nil, DS_cons, seesAll, staysAll, abit, List.getD_cons_zero, List.getD_cons_succ, AOp.quiet, AOp.reads, true_and, and_true, Nat.reducePow, Nat.reduceDiv, Nat.reduceMod, decide_true, decide_false, Nat.reduceEqDiff, reduceCtorEq, and_self, Nat.reduceBEq, hl5, abin, hz', Bool.true_beq, Bool.false_beq]
      exact DR.ret ⟨_, by simp [aresult, ares, Env.get] <;> rfl, rfl⟩
    · have hpos : 0 < L.length := by
        rcases Nat.eq_zero_or_pos L.length with h0 | h0
        · exact absurd (List.length_eq_zero_iff.mp h0) hne
        · exact h0
      have hz' : ((L.length : Int) == 0) = false := by
        rw [beq_eq_false_iff_ne]; omega
      have hp := List.getElem?_eq_getElem hpos
      obtain ⟨a1, a2⟩ := all_at (all_block (H := allHeap H' L) hne) (by simp) hpos
      have a3 := a2 (.str L[0].1) (by simp [hp])
      have b1 := hr6.nms.addr (allHeap (allHeap H' L) L) (k := .i64) (i := 0) (by simpa using hpos)
      have b2 := hr6.nms.load (i := 0) (v := .str L[0].1) (by simp [hp])
      have b1' := hr5.nms.addr (allHeap H' L) (k := .i64) (i := 0) (by simpa using hpos)
      have b2' := hr5.nms.load (i := 0) (v := .str L[0].1) (by simp [hp])
      simp only [Int.natCast_zero, Int.cast_ofNat_Int] at a1 b1 b1'
      simp only [r3_30, m3_30, DO_nil, DO_cons, OR'_nil, OR'_cons, onW_t, onW_f, onN_v, onN_c, onN_a, onB_t, onB_f, wantedA, astep, Env.val, Env.vals, Env.put, Env.set, Env.get, envFrom, Env.keep, afaddr, aun, AVal.cells, Option.bind_eq_bind, Option.bind_some, Option.pure_def, Nat.reduceEqDiff, Nat.succ_ne_self, if_true, if_false, reduceIte, Option.map_some, List.drop_zero, List.drop_succ_cons, List.length_cons, List.length_nil, Nat.reduceAdd, Nat.reduceLeDiff, Nat.zero_le, Nat.le_refl, List.getElem?_cons_zero, List.getElem?_cons_succ, beq_self_eq_true, Bool.false_eq_true, aundef, Nat.zero_add, Nat.add_zero, Bool.not_true, Bool.not_false, Bool.xor_false, Bool.false_xor, Bool.true_xor, Bool.xor_true, and_self, true_and, and_true, DS_nil, DS_cons, seesAll, staysAll, abit, List.getD_cons_zero, List.getD_cons_succ, AOp.quiet, AOp.reads, true_and, and_true, Nat.reducePow, Nat.reduceDiv, Nat.reduceMod, decide_true, decide_false, Nat.reduceEqDiff, reduceCtorEq, and_self, Nat.reduceBEq]
      refine (all_call hb5).mono ?_
      rintro a H5 ⟨rfl, rfl⟩
      simp only [DO_nil, DO_cons, OR'_nil, OR'_cons, onW_t, onW_f, onN_v, onN_c, onN_a, onB_t, onB_f, wantedA, astep, Env.val, Env.vals, Env.put, Env.set, Env.get, envFrom, Env.keep, afaddr, aun, AVal.cells, Option.bind_eq_bind, Option.bind_some, Option.pure_def, Nat.reduceEqDiff, Nat.succ_ne_self, if_true, if_false, reduceIte, Option.map_some, List.drop_zero, List.drop_succ_cons, List.length_cons, List.length_nil, Nat.reduceAdd, Nat.reduceLeDiff, Nat.zero_le, Nat.le_refl, List.getElem?_cons_zero, List.getElem?_cons_succ, beq_self_eq_true, Bool.false_eq_true, aundef, Nat.zero_add, Nat.add_zero, Bool.not_true, Bool.not_false, Bool.xor_false, Bool.false_xor, Bool.true_xor, Bool.xor_true, and_self, true_and, and_true, DS_nil, DS_cons, seesAll, staysAll, abit, List.getD_cons_zero, List.getD_cons_succ, AOp.quiet, AOp.reads, true_and, and_true, Nat.reducePow, Nat.reduceDiv, Nat.reduceMod, decide_true, decide_false, Nat.reduceEqDiff, reduceCtorEq, and_self, Nat.reduceBEq, hl5, abin, hz', Bool.true_beq, Bool.false_beq]
      refine (all_call hb6).mono ?_
      rintro a H6 ⟨rfl, rfl⟩
      simp only [DO_nil, DO_cons, OR'_nil, OR'_cons, onW_t, onW_f, onN_v, onN_c, onN_a, onB_t, onB_f, wantedA, astep, Env.val, Env.vals, Env.put, Env.set, Env.get, envFrom, Env.keep, afaddr, aun, AVal.cells, Option.bind_eq_bind, Option.bind_some, Option.pure_def, Nat.reduceEqDiff, Nat.succ_ne_self, if_true, if_false, reduceIte, Option.map_some, List.drop_zero, List.drop_succ_cons, List.length_cons, List.length_nil, Nat.reduceAdd, Nat.reduceLeDiff, Nat.zero_le, Nat.le_refl, List.getElem?_cons_zero, List.getElem?_cons_succ, beq_self_eq_true, Bool.false_eq_true, aundef, Nat.zero_add, Nat.add_zero, Bool.not_true, Bool.not_false, Bool.xor_false, Bool.false_xor, Bool.true_xor, Bool.xor_true, and_self, true_and, and_true, DS_nil, DS_cons, seesAll, staysAll, abit, List.getD_cons_zero, List.getD_cons_succ, AOp.quiet, AOp.reads, true_and, and_true, Nat.reducePow, Nat.reduceDiv, Nat.reduceMod, decide_true, decide_false, Nat.reduceEqDiff, reduceCtorEq, and_self, Nat.reduceBEq, abin, Bool.true_beq, Bool.false_beq, p5, p6, a1, a3, b1, b2, b1', b2']
      exact DR.ret ⟨_, by simp [aresult, ares, Env.get] <;> rfl, rfl⟩
  | succ d ih =>
    intro i H' hi hs hn hc
    have hlt : i < L.length := by omega
    have hne : L ≠ [] := by intro e; subst e; simp at hlt
    have hc' := hc hne
    have hp := List.getElem?_eq_getElem hlt
    have hr' := hr.frame hs
    have l0' := load_cell hr'.blk (o := 0) (v := x) rfl
    obtain ⟨a1, a2⟩ := all_at hc' (spoilt_len (by omega)) hlt
    have a3 := a2 _ (spoilt_at hp)
    have b1 := hr'.nms.addr H' (k := .i64) (i := i) (by simpa using hlt)
    have b2 := hr'.nms.load (i := i) (v := .str L[i].1) (by simp [hp])
    have hla' := all_len H H' L
    have hcmp : decide ((i : Int) < (L.length : Int)) = true := by simp; omega
    repeat' (first | refine DR.seq ?_ | refine DR.block ?_ | refine DR.skip ?_ | refine DR.inBlock ?_)
    refine DR.ops ?_
    simp only [r3_25, DO_nil, DO_cons, OR'_nil, OR'_cons, onW_t, onW_f, onN_v, onN_c, onN_a, onB_t, onB_f, wantedA, astep, Env.val, Env.vals, Env.put, Env.set, Env.get, envFrom, Env.keep, afaddr, aun, AVal.cells, Option.bind_eq_bind, Option.bind_some, Option.pure_def, Nat.reduceEqDiff, Nat.succ_ne_self, if_true, if_false, reduceIte, Option.map_some, List.drop_zero, List.drop_succ_cons, List.length_cons, List.length_nil, Nat.reduceAdd, Nat.reduceLeDiff, Nat.zero_le, Nat.le_refl, List.getElem?_cons_zero, List.getElem?_cons_succ, beq_self_eq_true, Bool.false_eq_true, aundef, Nat.zero_add, Nat.add_zero, Bool.not_true, Bool.not_false, Bool.xor_false, Bool.false_xor, Bool.true_xor, Bool.xor_true, and_self, true_and, and_true, hla', abin, hcmp]
    refine DR.yes rfl ?_
    repeat' (first | refine DR.seq ?_ | refine DR.block ?_ | refine DR.skip ?_ | refine DR.inBlock ?_)
    refine DR.draw (by kernel_rfl) d3_27 ?_
    simp only [r3_27, m3_27, DO_nil, DO_cons, OR'_nil, OR'_cons, onW_t, onW_f, onN_v, onN_c, onN_a, onB_t, onB_f, wantedA, astep, Env.val, Env.vals, Env.put, Env.set, Env.get, envFrom, Env.keep, afaddr, aun, AVal.cells, Option.bind_eq_bind, Option.bind_some, Option.pure_def, Nat.reduceEqDiff, Nat.succ_ne_self, if_true, if_false, reduceIte, Option.map_some, List.drop_zero, List.drop_succ_cons, List.length_cons, List.length_nil, Nat.reduceAdd, Nat.reduceLeDiff, Nat.zero_le, Nat.le_refl, List.getElem?_cons_zero, List.getElem?_cons_succ, beq_self_eq_true, Bool.false_eq_true, aundef, Nat.zero_add, Nat.add_zero, Bool.not_true, Bool.not_false, Bool.xor_false, Bool.false_xor, Bool.true_xor, Bool.xor_true, and_self, true_and, and_true, DS_nil, DS_cons, seesAll, staysAll, abit, List.getD_cons_zero, List.getD_cons_succ, AOp.quiet, AOp.reads, true_and, and_true, Nat.reducePow, Nat.reduceDiv, Nat.reduceMod, decide_true, decide_false, Nat.reduceEqDiff, reduceCtorEq, and_self, Nat.reduceBEq, a1, a3, l0', b1, b2, abin, Bool.not_true]
    refine DR.no rfl ?_
    repeat' (first | refine DR.seq ?_ | refine DR.block ?_ | refine DR.skip ?_ | refine DR.inBlock ?_)
    refine DR.ops ?_
    have hst := astore_one hc' (o := i) (x := .str spoiltB) (by rw [spoilt_len (by omega)]; exact hlt) rfl
    rw [spoilt_set hlt] at hst
    have hst' : astore H' 1 (.ptr (H.next + 2 * L.length) i) (.str ⟨#[115, 112, 111, 105, 108, 116]⟩) = _ := hst
    simp only [r3_29, DO_nil, DO_cons, OR'_nil, OR'_cons, onW_t, onW_f, onN_v, onN_c, onN_a, onB_t, onB_f, wantedA, astep, Env.val, Env.vals, Env.put, Env.set, Env.get, envFrom, Env.keep, afaddr, aun, AVal.cells, Option.bind_eq_bind, Option.bind_some, Option.pure_def, Nat.reduceEqDiff, Nat.succ_ne_self, if_true, if_false, reduceIte, Option.map_some, List.drop_zero, List.drop_succ_cons, List.length_cons, List.length_nil, Nat.reduceAdd, Nat.reduceLeDiff, Nat.zero_le, Nat.le_refl, List.getElem?_cons_zero, List.getElem?_cons_succ, beq_self_eq_true, Bool.false_eq_true, aundef, Nat.zero_add, Nat.add_zero, Bool.not_true, Bool.not_false, Bool.xor_false, Bool.false_xor, Bool.true_xor, Bool.xor_true, and_self, true_and, and_true, a1, hst']
    repeat' (first | refine DR.seq ?_ | refine DR.block ?_ | refine DR.skip ?_ | refine DR.inBlock ?_)
    refine DR.ops ?_
    have hw : IntKind.i64.wrap ((i : Int) + 1) = ((i + 1 : Nat) : Int) := wrap64 (n := i + 1) (by omega)
    simp only [r3_26, DO_nil, DO_cons, OR'_nil, OR'_cons, onW_t, onW_f, onN_v, onN_c, onN_a, onB_t, onB_f, wantedA, astep, Env.val, Env.vals, Env.put, Env.set, Env.get, envFrom, Env.keep, afaddr, aun, AVal.cells, Option.bind_eq_bind, Option.bind_some, Option.pure_def, Nat.reduceEqDiff, Nat.succ_ne_self, if_true, if_false, reduceIte, Option.map_some, List.drop_zero, List.drop_succ_cons, List.length_cons, List.length_nil, Nat.reduceAdd, Nat.reduceLeDiff, Nat.zero_le, Nat.le_refl, List.getElem?_cons_zero, List.getElem?_cons_succ, beq_self_eq_true, Bool.false_eq_true, aundef, Nat.zero_add, Nat.add_zero, Bool.not_true, Bool.not_false, Bool.xor_false, Bool.false_xor, Bool.true_xor, Bool.xor_true, and_self, true_and, and_true, abin, hw]
    refine DR.inLoop ?_
    refine ih (i + 1) _ (by omega) (fun j hj => by rw [AHeap.get_set, if_neg (by omega), hs j hj]) hn (fun _ => by rw [AHeap.get_set, if_pos rfl, if_pos (AHeap.get_lt hc')])

theorem g3 {H : AHeap} {x : AVal} {l : List ActT} (hp : Play x l) : DCall Try.prog 3 [x] H fun a H' => a = .bool true := by
  refine DCall.of_body (fn := Try.f3) (by kernel_rfl) c3 (by kernel_rfl) (by simp [f3]) ?_
  unfold f3
  simp only []
  repeat' (first | refine DR.seq ?_ | refine DR.block ?_ | refine DR.skip ?_ | refine DR.inBlock ?_)
  refine DR.ops ?_
  simp only [r3_0, DO_nil, DO_cons, OR'_nil, OR'_cons, onW_t, onW_f, onN_v, onN_c, onN_a, onB_t, onB_f, wantedA, astep, Env.val, Env.vals, Env.put, Env.set, Env.get, envFrom, Env.keep, afaddr, aun, AVal.cells, Option.bind_eq_bind, Option.bind_some, Option.pure_def, Nat.reduceEqDiff, Nat.succ_ne_self, if_true, if_false, reduceIte, Option.map_some, List.drop_zero, List.drop_succ_cons, List.length_cons, List.length_nil, Nat.reduceAdd, Nat.reduceLeDiff, Nat.zero_le, Nat.le_refl, List.getElem?_cons_zero, List.getElem?_cons_succ, beq_self_eq_true, Bool.false_eq_true, aundef, Nat.zero_add, Nat.add_zero, Bool.not_true, Bool.not_false, Bool.xor_false, Bool.false_xor, Bool.true_xor, Bool.xor_true, and_self, true_and, and_true]
  repeat' (first | refine DR.seq ?_ | refine DR.block ?_ | refine DR.skip ?_ | refine DR.inBlock ?_)
  refine DR.ops ?_
  simp only [r3_1, DO_nil, DO_cons, OR'_nil, OR'_cons, onW_t, onW_f, onN_v, onN_c, onN_a, onB_t, onB_f, wantedA, astep, Env.val, Env.vals, Env.put, Env.set, Env.get, envFrom, Env.keep, afaddr, aun, AVal.cells, Option.bind_eq_bind, Option.bind_some, Option.pure_def, Nat.reduceEqDiff, Nat.succ_ne_self, if_true, if_false, reduceIte, Option.map_some, List.drop_zero, List.drop_succ_cons, List.length_cons, List.length_nil, Nat.reduceAdd, Nat.reduceLeDiff, Nat.zero_le, Nat.le_refl, List.getElem?_cons_zero, List.getElem?_cons_succ, beq_self_eq_true, Bool.false_eq_true, aundef, Nat.zero_add, Nat.add_zero, Bool.not_true, Bool.not_false, Bool.xor_false, Bool.false_xor, Bool.true_xor, Bool.xor_true, and_self, true_and, and_true]
  refine (g5 H).mono ?_
  rintro a H1 ⟨rfl, n1, f1⟩
  simp only [DO_nil, DO_cons, OR'_nil, OR'_cons, onW_t, onW_f, onN_v, onN_c, onN_a, onB_t, onB_f, wantedA, astep, Env.val, Env.vals, Env.put, Env.set, Env.get, envFrom, Env.keep, afaddr, aun, AVal.cells, Option.bind_eq_bind, Option.bind_some, Option.pure_def, Nat.reduceEqDiff, Nat.succ_ne_self, if_true, if_false, reduceIte, Option.map_some, List.drop_zero, List.drop_succ_cons, List.length_cons, List.length_nil, Nat.reduceAdd, Nat.reduceLeDiff, Nat.zero_le, Nat.le_refl, List.getElem?_cons_zero, List.getElem?_cons_succ, beq_self_eq_true, Bool.false_eq_true, aundef, Nat.zero_add, Nat.add_zero, Bool.not_true, Bool.not_false, Bool.xor_false, Bool.false_xor, Bool.true_xor, Bool.xor_true, and_self, true_and, and_true]
  refine DR.no rfl ?_
  repeat' (first | refine DR.seq ?_ | refine DR.block ?_ | refine DR.skip ?_ | refine DR.inBlock ?_)
  refine DR.ops ?_
  have hl := hp.len
  simp only [r3_3, DO_nil, DO_cons, OR'_nil, OR'_cons, onW_t, onW_f, onN_v, onN_c, onN_a, onB_t, onB_f, wantedA, astep, Env.val, Env.vals, Env.put, Env.set, Env.get, envFrom, Env.keep, afaddr, aun, AVal.cells, Option.bind_eq_bind, Option.bind_some, Option.pure_def, Nat.reduceEqDiff, Nat.succ_ne_self, if_true, if_false, reduceIte, Option.map_some, List.drop_zero, List.drop_succ_cons, List.length_cons, List.length_nil, Nat.reduceAdd, Nat.reduceLeDiff, Nat.zero_le, Nat.le_refl, List.getElem?_cons_zero, List.getElem?_cons_succ, beq_self_eq_true, Bool.false_eq_true, aundef, Nat.zero_add, Nat.add_zero, Bool.not_true, Bool.not_false, Bool.xor_false, Bool.false_xor, Bool.true_xor, Bool.xor_true, and_self, true_and, and_true, hl, abin]
  cases hbig : decide ((l.length : Int) > 1000) with
  | true =>
    refine DR.yes rfl ?_
    repeat' (first | refine DR.seq ?_ | refine DR.block ?_ | refine DR.skip ?_ | refine DR.inBlock ?_)
    refine DR.ops ?_
    simp only [r3_4, DO_nil, DO_cons, OR'_nil, OR'_cons, onW_t, onW_f, onN_v, onN_c, onN_a, onB_t, onB_f, wantedA, astep, Env.val, Env.vals, Env.put, Env.set, Env.get, envFrom, Env.keep, afaddr, aun, AVal.cells, Option.bind_eq_bind, Option.bind_some, Option.pure_def, Nat.reduceEqDiff, Nat.succ_ne_self, if_true, if_false, reduceIte, Option.map_some, List.drop_zero, List.drop_succ_cons, List.length_cons, List.length_nil, Nat.reduceAdd, Nat.reduceLeDiff, Nat.zero_le, Nat.le_refl, List.getElem?_cons_zero, List.getElem?_cons_succ, beq_self_eq_true, Bool.false_eq_true, aundef, Nat.zero_add, Nat.add_zero, Bool.not_true, Bool.not_false, Bool.xor_false, Bool.false_xor, Bool.true_xor, Bool.xor_true, and_self, true_and, and_true]
    exact DR.ret ⟨_, by simp [aresult, ares, Env.get] <;> rfl, rfl⟩
  | false =>
    have hsmall : l.length ≤ 1000 := by simp at hbig; omega
    refine DR.no rfl ?_
    repeat' (first | refine DR.seq ?_ | refine DR.block ?_ | refine DR.skip ?_ | refine DR.inBlock ?_)
    refine DR.ops ?_
    simp only [r3_5, DO_nil, DO_cons, OR'_nil, OR'_cons, onW_t, onW_f, onN_v, onN_c, onN_a, onB_t, onB_f, wantedA, astep, Env.val, Env.vals, Env.put, Env.set, Env.get, envFrom, Env.keep, afaddr, aun, AVal.cells, Option.bind_eq_bind, Option.bind_some, Option.pure_def, Nat.reduceEqDiff, Nat.succ_ne_self, if_true, if_false, reduceIte, Option.map_some, List.drop_zero, List.drop_succ_cons, List.length_cons, List.length_nil, Nat.reduceAdd, Nat.reduceLeDiff, Nat.zero_le, Nat.le_refl, List.getElem?_cons_zero, List.getElem?_cons_succ, beq_self_eq_true, Bool.false_eq_true, aundef, Nat.zero_add, Nat.add_zero, Bool.not_true, Bool.not_false, Bool.xor_false, Bool.false_xor, Bool.true_xor, Bool.xor_true, and_self, true_and, and_true]
    refine (g6 H1).mono ?_
    rintro a H2 ⟨rfl, rfl⟩
    simp only [DO_nil, DO_cons, OR'_nil, OR'_cons, onW_t, onW_f, onN_v, onN_c, onN_a, onB_t, onB_f, wantedA, astep, Env.val, Env.vals, Env.put, Env.set, Env.get, envFrom, Env.keep, afaddr, aun, AVal.cells, Option.bind_eq_bind, Option.bind_some, Option.pure_def, Nat.reduceEqDiff, Nat.succ_ne_self, if_true, if_false, reduceIte, Option.map_some, List.drop_zero, List.drop_succ_cons, List.length_cons, List.length_nil, Nat.reduceAdd, Nat.reduceLeDiff, Nat.zero_le, Nat.le_refl, List.getElem?_cons_zero, List.getElem?_cons_succ, beq_self_eq_true, Bool.false_eq_true, aundef, Nat.zero_add, Nat.add_zero, Bool.not_true, Bool.not_false, Bool.xor_false, Bool.false_xor, Bool.true_xor, Bool.xor_true, and_self, true_and, and_true]
    repeat' (first | refine DR.seq ?_ | refine DR.block ?_ | refine DR.skip ?_ | refine DR.inBlock ?_)
    refine DR.ops ?_
    simp only [r3_6, DO_nil, DO_cons, OR'_nil, OR'_cons, onW_t, onW_f, onN_v, onN_c, onN_a, onB_t, onB_f, wantedA, astep, Env.val, Env.vals, Env.put, Env.set, Env.get, envFrom, Env.keep, afaddr, aun, AVal.cells, Option.bind_eq_bind, Option.bind_some, Option.pure_def, Nat.reduceEqDiff, Nat.succ_ne_self, if_true, if_false, reduceIte, Option.map_some, List.drop_zero, List.drop_succ_cons, List.length_cons, List.length_nil, Nat.reduceAdd, Nat.reduceLeDiff, Nat.zero_le, Nat.le_refl, List.getElem?_cons_zero, List.getElem?_cons_succ, beq_self_eq_true, Bool.false_eq_true, aundef, Nat.zero_add, Nat.add_zero, Bool.not_true, Bool.not_false, Bool.xor_false, Bool.false_xor, Bool.true_xor, Bool.xor_true, and_self, true_and, and_true, Env.parts, afill]
    repeat' (first | refine DR.seq ?_ | refine DR.block ?_ | refine DR.skip ?_ | refine DR.inBlock ?_)
    refine DR.ops ?_
    simp only [r3_7, DO_nil, DO_cons, OR'_nil, OR'_cons, onW_t, onW_f, onN_v, onN_c, onN_a, onB_t, onB_f, wantedA, astep, Env.val, Env.vals, Env.put, Env.set, Env.get, envFrom, Env.keep, afaddr, aun, AVal.cells, Option.bind_eq_bind, Option.bind_some, Option.pure_def, Nat.reduceEqDiff, Nat.succ_ne_self, if_true, if_false, reduceIte, Option.map_some, List.drop_zero, List.drop_succ_cons, List.length_cons, List.length_nil, Nat.reduceAdd, Nat.reduceLeDiff, Nat.zero_le, Nat.le_refl, List.getElem?_cons_zero, List.getElem?_cons_succ, beq_self_eq_true, Bool.false_eq_true, aundef, Nat.zero_add, Nat.add_zero, Bool.not_true, Bool.not_false, Bool.xor_false, Bool.false_xor, Bool.true_xor, Bool.xor_true, and_self, true_and, and_true, anil]
    refine DR.no rfl ?_
    repeat' (first | refine DR.seq ?_ | refine DR.block ?_ | refine DR.skip ?_ | refine DR.inBlock ?_)
    refine DR.ops ?_
    simp only [r3_9, DO_nil, DO_cons, OR'_nil, OR'_cons, onW_t, onW_f, onN_v, onN_c, onN_a, onB_t, onB_f, wantedA, astep, Env.val, Env.vals, Env.put, Env.set, Env.get, envFrom, Env.keep, afaddr, aun, AVal.cells, Option.bind_eq_bind, Option.bind_some, Option.pure_def, Nat.reduceEqDiff, Nat.succ_ne_self, if_true, if_false, reduceIte, Option.map_some, List.drop_zero, List.drop_succ_cons, List.length_cons, List.length_nil, Nat.reduceAdd, Nat.reduceLeDiff, Nat.zero_le, Nat.le_refl, List.getElem?_cons_zero, List.getElem?_cons_succ, beq_self_eq_true, Bool.false_eq_true, aundef, Nat.zero_add, Nat.add_zero, Bool.not_true, Bool.not_false, Bool.xor_false, Bool.false_xor, Bool.true_xor, Bool.xor_true, and_self, true_and, and_true]
    refine DR.block ?_
    refine DR.loop ?_
    refine rounds3 hp hsmall rfl ?_ l.length 0 [] [] 0 0 _ (by omega) (by simp) ⟨(newHeap_at H1).push (fun j hj => by rw [AHeap.get_push, if_neg (by omega)]), ⟨.nils, .nils, refNew (r := (newHeap H1).next) (by rw [AHeap.get_push, if_pos rfl])⟩, sameNew, by have := (newHeap_old H1).1; omega⟩
    intro A' L' c1' c2' H' hb hL
    exact tail3 hb hL
end Go.Am.Rn
