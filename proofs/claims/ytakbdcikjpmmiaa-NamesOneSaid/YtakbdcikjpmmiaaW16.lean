import Derived.Test.YtakbdcikjpmmiaaW15
set_option linter.unusedVariables false
set_option linter.unusedSimpArgs false
namespace Go.Am.Rn
open Go.Proofs

theorem Same.one {A : List Rec} {L : List (ByteArray × Int)} (h : Same A L) {p : ByteArray × Int} (hp : p ∈ L) : nwhose A p.1 = .tup [.int .i64 p.2, .bool true] ∧ nof A p.2 = .tup [.str p.1, .bool true] ∧ badName p.1 = false ∧ 1 ≤ p.2 := by
  obtain ⟨a, ha, rfl⟩ := (h.mem p).mp hp
  obtain ⟨i, hi⟩ := List.mem_iff_getElem?.mp ha
  have h1 := look1_at h.nms (i := 0) hi
  have h2 := look2_at h.pds (i := 0) hi
  refine ⟨?_, ?_, (h.good a ha).1, (h.good a ha).2⟩
  · unfold nwhose
    show (match look1 a.nm A 0 with | some q => AVal.tup [.int .i64 q.2.pid, .bool true] | none => .tup [.int .i64 0, .bool false]) = _
    rw [h1]; rfl
  · unfold nof
    show (match look2 a.pid A 0 with | some q => AVal.tup [.str q.2.nm, .bool true] | none => .tup [.str ⟨#[]⟩, .bool false]) = _
    rw [h2]; rfl
theorem Same.back {A : List Rec} {L : List (ByteArray × Int)} (h : Same A L) (q : Int) : nof A q = .tup [.str ⟨#[]⟩, .bool false] ∨ ∃ s, nof A q = .tup [.str s, .bool true] ∧ nwhose A s = .tup [.int .i64 q, .bool true] := by
  unfold nof
  cases hl : look2 q A 0 with
  | none => exact .inl rfl
  | some r =>
    obtain ⟨_, h2, h3⟩ := look2_lt (by rw [hl] : look2 q A 0 = some (r.1, r.2))
    have h1 := look1_at h.nms (i := 0) h2
    refine .inr ⟨r.2.nm, rfl, ?_⟩
    unfold nwhose
    rw [h1, h3]

/-- The play's pids, each by itself. -/
structure Play2 (x : AVal) (l : List ActT) : Prop extends Play x l where
  pid : ∀ (i : Nat) a, l[i]? = some a → ∃ cs, (∀ H, aiaddr H 3 x (.int .i64 (i : Int)) = some (.rop cs)) ∧ ∀ H, aload H none (.rop (cs.drop 2)) = some (.int .i64 a.2.2)
theorem Play2.nils : Play2 .nils [] := ⟨Play.nils, fun i a h => by simp at h⟩
theorem flat_pid (l : List ActT) : ∀ (i : Nat) a, l[i]? = some a → ∃ r, (l.flatMap actCells).drop (i * 3 + 2) = .int .i64 a.2.2 :: r := by
  induction l with
  | nil => intro i a h; simp at h
  | cons b r ih =>
    intro i a h
    cases i with
    | zero => simp at h; subst h; exact ⟨r.flatMap actCells, by simp [actCells]⟩
    | succ i =>
      simp at h
      obtain ⟨t, ht⟩ := ih i a h
      have e : (i + 1) * 3 + 2 = 3 + (i * 3 + 2) := by omega
      have hb : (actCells b).length = 3 := rfl
      exact ⟨t, by rw [List.flatMap_cons, e, ← List.drop_drop, List.drop_left' hb]; exact ht⟩
theorem Play2.ros (l : List ActT) : Play2 (.ros (l.flatMap actCells) l.length) l := by
  refine ⟨Play.ros l, fun i a h => ?_⟩
  obtain ⟨r, hr⟩ := flat_pid l i a h
  have hi : i < l.length := (List.getElem?_eq_some_iff.mp h).1
  refine ⟨(l.flatMap actCells).drop (i * 3), fun H => ?_, fun H => ?_⟩
  · simp only [aiaddr]
    rw [if_pos ⟨by omega, by omega, by rw [flat_len]; omega⟩]; simp
  · rw [List.drop_drop, hr]; rfl

/-- The names, looked at one by one: behind the first tests. -/
theorem rest4 {H : AHeap} {x : AVal} {n m1 m2 : Nat} {A : List Rec} {L : List (ByteArray × Int)} {c1 c2 : Nat} (hb : Nam (allHeap H L) n m1 m2 A L c1 c2) (hL : L.length ≤ 1000) {i : Nat} (hlt : i < L.length) {k : List AItem} {Q : Env → AHeap → Prop}
    (hgo : DR Try.prog (kof k4) 150 (.inLoop l4_1 :: k) [(0, x), (3, .ptr n 0), (5, allVal H L), (6, .int .i64 ((i + 1 : Nat) : Int))] (allHeap H L) Q) :
    DR Try.prog (kof k4) 150 (.code (.region false r4_18 [0, 3, 5, 6, 7, 8]) :: .code (.seq (.region false r4_19 [0, 3, 5, 6, 7, 8, 9, 10]) (.seq (.region false r4_20 [0, 3, 5, 6, 114]) (.cond (.t 114) (.seq (.region false r4_21 [2]) .ret) .skip))) :: .inBlock 3 :: .code (.region false r4_15 [0, 3, 5, 6]) :: .inLoop l4_1 :: k)
      [(0, x), (3, .ptr n 0), (5, allVal H L), (6, .int .i64 (i : Int))] (allHeap H L) Q := by
  have hne : L ≠ [] := by intro e; subst e; simp at hlt
  have hp := List.getElem?_eq_getElem hlt
  obtain ⟨w1, w2, hbad, hpos⟩ := hb.same.one (List.getElem_mem hlt)
  obtain ⟨a1, a2⟩ := all_at (all_block (H := H) hne) (by simp) hlt
  have a3 := a2 (.str L[i].1) (by simp [hp])
  have hlow : decide (L[i].2 < 1) = false := by simp; omega
  repeat' (first | refine DR.seq ?_ | refine DR.block ?_ | refine DR.skip ?_ | refine DR.inBlock ?_)
  refine DR.ops ?_
  simp -dsimp only [r4_18, DO_nil, DO_cons, OR'_nil, OR'_cons, onW_t, onW_f, onN_v, onN_c, onN_a, onB_t, onB_f, wantedA, astep, Env.val, Env.vals, Env.put, Env.set, Env.get, envFrom, Env.keep, afaddr, aun, AVal.cells, Option.bind_eq_bind, Option.bind_some, Option.pure_def, Nat.reduceEqDiff, Nat.succ_ne_self, if_true, if_false, reduceIte, Option.map_some, List.drop_zero, List.drop_succ_cons, List.length_cons, List.length_nil, Nat.reduceAdd, Nat.reduceLeDiff, Nat.zero_le, Nat.le_refl, List.getElem?_cons_zero, List.getElem?_cons_succ, beq_self_eq_true, Bool.false_eq_true, aundef, Nat.zero_add, Nat.add_zero, Bool.not_true, Bool.not_false, Bool.xor_false, Bool.false_xor, Bool.true_xor, Bool.xor_true, and_self, true_and, and_true, a1, a3]
  refine (g8 hb.nam L[i].1).mono ?_
  rintro b H3 ⟨rfl, rfl⟩
  simp only [w1, DO_nil, DO_cons, OR'_nil, OR'_cons, onW_t, onW_f, onN_v, onN_c, onN_a, onB_t, onB_f, wantedA, astep, Env.val, Env.vals, Env.put, Env.set, Env.get, envFrom, Env.keep, afaddr, aun, AVal.cells, Option.bind_eq_bind, Option.bind_some, Option.pure_def, Nat.reduceEqDiff, Nat.succ_ne_self, if_true, if_false, reduceIte, Option.map_some, List.drop_zero, List.drop_succ_cons, List.length_cons, List.length_nil, Nat.reduceAdd, Nat.reduceLeDiff, Nat.zero_le, Nat.le_refl, List.getElem?_cons_zero, List.getElem?_cons_succ, beq_self_eq_true, Bool.false_eq_true, aundef, Nat.zero_add, Nat.add_zero, Bool.not_true, Bool.not_false, Bool.xor_false, Bool.false_xor, Bool.true_xor, Bool.xor_true, and_self, true_and, and_true]
  repeat' (first | refine DR.seq ?_ | refine DR.block ?_ | refine DR.skip ?_ | refine DR.inBlock ?_)
  refine DR.ops ?_
  simp -dsimp only [r4_19, DO_nil, DO_cons, OR'_nil, OR'_cons, onW_t, onW_f, onN_v, onN_c, onN_a, onB_t, onB_f, wantedA, astep, Env.val, Env.vals, Env.put, Env.set, Env.get, envFrom, Env.keep, afaddr, aun, AVal.cells, Option.bind_eq_bind, Option.bind_some, Option.pure_def, Nat.reduceEqDiff, Nat.succ_ne_self, if_true, if_false, reduceIte, Option.map_some, List.drop_zero, List.drop_succ_cons, List.length_cons, List.length_nil, Nat.reduceAdd, Nat.reduceLeDiff, Nat.zero_le, Nat.le_refl, List.getElem?_cons_zero, List.getElem?_cons_succ, beq_self_eq_true, Bool.false_eq_true, aundef, Nat.zero_add, Nat.add_zero, Bool.not_true, Bool.not_false, Bool.xor_false, Bool.false_xor, Bool.true_xor, Bool.xor_true, and_self, true_and, and_true]
  refine (g10 hb.nam L[i].2).mono ?_
  rintro b H3 ⟨rfl, rfl⟩
  simp only [w2, DO_nil, DO_cons, OR'_nil, OR'_cons, onW_t, onW_f, onN_v, onN_c, onN_a, onB_t, onB_f, wantedA, astep, Env.val, Env.vals, Env.put, Env.set, Env.get, envFrom, Env.keep, afaddr, aun, AVal.cells, Option.bind_eq_bind, Option.bind_some, Option.pure_def, Nat.reduceEqDiff, Nat.succ_ne_self, if_true, if_false, reduceIte, Option.map_some, List.drop_zero, List.drop_succ_cons, List.length_cons, List.length_nil, Nat.reduceAdd, Nat.reduceLeDiff, Nat.zero_le, Nat.le_refl, List.getElem?_cons_zero, List.getElem?_cons_succ, beq_self_eq_true, Bool.false_eq_true, aundef, Nat.zero_add, Nat.add_zero, Bool.not_true, Bool.not_false, Bool.xor_false, Bool.false_xor, Bool.true_xor, Bool.xor_true, and_self, true_and, and_true]
  repeat' (first | refine DR.seq ?_ | refine DR.block ?_ | refine DR.skip ?_ | refine DR.inBlock ?_)
  refine DR.ops ?_
  simp -dsimp only [r4_20, DO_nil, DO_cons, OR'_nil, OR'_cons, onW_t, onW_f, onN_v, onN_c, onN_a, onB_t, onB_f, wantedA, astep, Env.val, Env.vals, Env.put, Env.set, Env.get, envFrom, Env.keep, afaddr, aun, AVal.cells, Option.bind_eq_bind, Option.bind_some, Option.pure_def, Nat.reduceEqDiff, Nat.succ_ne_self, if_true, if_false, reduceIte, Option.map_some, List.drop_zero, List.drop_succ_cons, List.length_cons, List.length_nil, Nat.reduceAdd, Nat.reduceLeDiff, Nat.zero_le, Nat.le_refl, List.getElem?_cons_zero, List.getElem?_cons_succ, beq_self_eq_true, Bool.false_eq_true, aundef, Nat.zero_add, Nat.add_zero, Bool.not_true, Bool.not_false, Bool.xor_false, Bool.false_xor, Bool.true_xor, Bool.xor_true, and_self, true_and, and_true, abin, a1, a3, beq_self_eq_true, Bool.not_true, hlow]
  refine DR.no rfl ?_
  repeat' (first | refine DR.seq ?_ | refine DR.block ?_ | refine DR.skip ?_ | refine DR.inBlock ?_)
  refine DR.ops ?_
  have hw : IntKind.i64.wrap ((i : Int) + 1) = ((i + 1 : Nat) : Int) := wrap64 (n := i + 1) (by omega)
  simp -dsimp only [r4_15, DO_nil, DO_cons, OR'_nil, OR'_cons, onW_t, onW_f, onN_v, onN_c, onN_a, onB_t, onB_f, wantedA, astep, Env.val, Env.vals, Env.put, Env.set, Env.get, envFrom, Env.keep, afaddr, aun, AVal.cells, Option.bind_eq_bind, Option.bind_some, Option.pure_def, Nat.reduceEqDiff, Nat.succ_ne_self, if_true, if_false, reduceIte, Option.map_some, List.drop_zero, List.drop_succ_cons, List.length_cons, List.length_nil, Nat.reduceAdd, Nat.reduceLeDiff, Nat.zero_le, Nat.le_refl, List.getElem?_cons_zero, List.getElem?_cons_succ, beq_self_eq_true, Bool.false_eq_true, aundef, Nat.zero_add, Nat.add_zero, Bool.not_true, Bool.not_false, Bool.xor_false, Bool.false_xor, Bool.true_xor, Bool.xor_true, and_self, true_and, and_true, abin, hw]
  exact hgo

theorem mid4z {HH : AHeap} {x v y : AVal} {n : Nat} {i : Int} {s : ByteArray} (a1 : aiaddr HH 1 v (.int .i64 i) = some y) (a3 : aload HH none y = some (.str s)) (n1 : (s.toList == (⟨#[]⟩ : ByteArray).toList) = false) (n2 : decide ((s.size : Int) > 64) = false)
    (n3 : (s.toList == (⟨#[117, 110, 100, 101, 102, 105, 110, 101, 100]⟩ : ByteArray).toList) = false) (hg : decide (i > 0) = false) {k : List AItem} {Q : Env → AHeap → Prop}
    (hgo : DR Try.prog (kof k4) 150 k [(0, x), (3, .ptr n 0), (5, v), (6, .int .i64 i), (81, .bool false)] HH Q) :
    DR Try.prog (kof k4) 150 (.code (.region true r4_16 [0, 3, 5, 6, 81]) :: k) [(0, x), (3, .ptr n 0), (5, v), (6, .int .i64 i)] HH Q := by
  have hsz : alenT HH 0 (.str s) = some s.size := rfl
  refine DR.draw (by kernel_rfl) d4_16 ?_
  simp -dsimp only [Bool.false_beq, Bool.true_beq, r4_16, m4_16, DO_nil, DO_cons, OR'_nil, OR'_cons, onW_t, onW_f, onN_v, onN_c, onN_a, onB_t, onB_f, wantedA, astep, Env.val, Env.vals, Env.put, Env.set, Env.get, envFrom, Env.keep, afaddr, aun, AVal.cells, Option.bind_eq_bind, Option.bind_some, Option.pure_def, Nat.reduceEqDiff, Nat.succ_ne_self, if_true, if_false, reduceIte, Option.map_some, List.drop_zero, List.drop_succ_cons, List.length_cons, List.length_nil, Nat.reduceAdd, Nat.reduceLeDiff, Nat.zero_le, Nat.le_refl, List.getElem?_cons_zero, List.getElem?_cons_succ, beq_self_eq_true, Bool.false_eq_true, aundef, Nat.zero_add, Nat.add_zero, Bool.not_true, Bool.not_false, Bool.xor_false, Bool.false_xor, Bool.true_xor, Bool.xor_true, and_self, true_and, and_true, DS_nil, DS_cons, seesAll, staysAll, abit, List.getD_cons_zero, List.getD_cons_succ, AOp.quiet, AOp.reads, true_and, and_true, Nat.reducePow, Nat.reduceDiv, Nat.reduceMod, decide_true, decide_false, Nat.reduceEqDiff, reduceCtorEq, and_self, Nat.reduceBEq, abin, hg, a1, a3, n1, n2, n3, hsz]
  exact hgo

theorem mid4p {HH : AHeap} {x v y y1 : AVal} {n : Nat} {i : Int} {s s1 : ByteArray} (a1 : aiaddr HH 1 v (.int .i64 i) = some y) (a3 : aload HH none y = some (.str s)) (n1 : (s.toList == (⟨#[]⟩ : ByteArray).toList) = false) (n2 : decide ((s.size : Int) > 64) = false)
    (n3 : (s.toList == (⟨#[117, 110, 100, 101, 102, 105, 110, 101, 100]⟩ : ByteArray).toList) = false) (hg : decide (i > 0) = true) {i1 : Int} (hw : IntKind.i64.wrap (i - 1) = i1) (b1 : aiaddr HH 1 v (.int .i64 i1) = some y1) (b3 : aload HH none y1 = some (.str s1)) (hrise : Op.bytesLess s1.toList s.toList = true) {k : List AItem} {Q : Env → AHeap → Prop}
    (hgo : DR Try.prog (kof k4) 150 k [(0, x), (3, .ptr n 0), (5, v), (6, .int .i64 i), (81, .bool false)] HH Q) :
    DR Try.prog (kof k4) 150 (.code (.region true r4_16 [0, 3, 5, 6, 81]) :: k) [(0, x), (3, .ptr n 0), (5, v), (6, .int .i64 i)] HH Q := by
  have hsz : alenT HH 0 (.str s) = some s.size := rfl
  refine DR.draw (by kernel_rfl) d4_16 ?_
  simp -dsimp only [Bool.false_beq, Bool.true_beq, r4_16, m4_16, DO_nil, DO_cons, OR'_nil, OR'_cons, onW_t, onW_f, onN_v, onN_c, onN_a, onB_t, onB_f, wantedA, astep, Env.val, Env.vals, Env.put, Env.set, Env.get, envFrom, Env.keep, afaddr, aun, AVal.cells, Option.bind_eq_bind, Option.bind_some, Option.pure_def, Nat.reduceEqDiff, Nat.succ_ne_self, if_true, if_false, reduceIte, Option.map_some, List.drop_zero, List.drop_succ_cons, List.length_cons, List.length_nil, Nat.reduceAdd, Nat.reduceLeDiff, Nat.zero_le, Nat.le_refl, List.getElem?_cons_zero, List.getElem?_cons_succ, beq_self_eq_true, Bool.false_eq_true, aundef, Nat.zero_add, Nat.add_zero, Bool.not_true, Bool.not_false, Bool.xor_false, Bool.false_xor, Bool.true_xor, Bool.xor_true, and_self, true_and, and_true, DS_nil, DS_cons, seesAll, staysAll, abit, List.getD_cons_zero, List.getD_cons_succ, AOp.quiet, AOp.reads, true_and, and_true, Nat.reducePow, Nat.reduceDiv, Nat.reduceMod, decide_true, decide_false, Nat.reduceEqDiff, reduceCtorEq, and_self, Nat.reduceBEq, abin, hg, a1, a3, n1, n2, n3, hsz, hw, b1, b3, hrise, Bool.not_true]
  exact hgo

/-- The names, looked at one by one. -/
theorem second4 {H : AHeap} {x : AVal} {n m1 m2 : Nat} {A : List Rec} {L : List (ByteArray × Int)} {c1 c2 : Nat} (hb : Nam (allHeap H L) n m1 m2 A L c1 c2) (hL : L.length ≤ 1000) {i : Nat} (hlt : i < L.length) {k : List AItem} {Q : Env → AHeap → Prop}
    (hgo : DR Try.prog (kof k4) 150 (.inLoop l4_1 :: k) [(0, x), (3, .ptr n 0), (5, allVal H L), (6, .int .i64 ((i + 1 : Nat) : Int))] (allHeap H L) Q) :
    DR Try.prog (kof k4) 150 (.code l4_1 :: .inLoop l4_1 :: k) [(0, x), (3, .ptr n 0), (5, allVal H L), (6, .int .i64 (i : Int))] (allHeap H L) Q := by
  have hne : L ≠ [] := by intro e; subst e; simp at hlt
  have hp := List.getElem?_eq_getElem hlt
  obtain ⟨w1, w2, hbad, hpos⟩ := hb.same.one (List.getElem_mem hlt)
  unfold badName undefd at hbad
  simp only [Bool.or_eq_false_iff] at hbad
  obtain ⟨⟨n1, n2⟩, n3⟩ := hbad
  obtain ⟨a1, a2⟩ := all_at (all_block (H := H) hne) (by simp) hlt
  have a3 := a2 (.str L[i].1) (by simp [hp])
  have hla := all_len H (allHeap H L) L
  have hcmp : decide ((i : Int) < (L.length : Int)) = true := by simp; omega
  repeat' (first | refine DR.seq ?_ | refine DR.block ?_ | refine DR.skip ?_ | refine DR.inBlock ?_)
  refine DR.ops ?_
  simp -dsimp only [r4_14, DO_nil, DO_cons, OR'_nil, OR'_cons, onW_t, onW_f, onN_v, onN_c, onN_a, onB_t, onB_f, wantedA, astep, Env.val, Env.vals, Env.put, Env.set, Env.get, envFrom, Env.keep, afaddr, aun, AVal.cells, Option.bind_eq_bind, Option.bind_some, Option.pure_def, Nat.reduceEqDiff, Nat.succ_ne_self, if_true, if_false, reduceIte, Option.map_some, List.drop_zero, List.drop_succ_cons, List.length_cons, List.length_nil, Nat.reduceAdd, Nat.reduceLeDiff, Nat.zero_le, Nat.le_refl, List.getElem?_cons_zero, List.getElem?_cons_succ, beq_self_eq_true, Bool.false_eq_true, aundef, Nat.zero_add, Nat.add_zero, Bool.not_true, Bool.not_false, Bool.xor_false, Bool.false_xor, Bool.true_xor, Bool.xor_true, and_self, true_and, and_true, hla, abin, hcmp]
  refine DR.yes rfl ?_
  have hgo' := rest4 hb hL hlt hgo
  repeat' (first | refine DR.seq ?_ | refine DR.block ?_ | refine DR.skip ?_ | refine DR.inBlock ?_)
  rcases Nat.eq_zero_or_pos i with h0 | h0
  · refine DR.only [0, 3, 5, 6] ?_
    refine mid4z a1 a3 n1 n2 n3 (by simp; omega) ?_
    refine DR.no rfl ?_
    repeat' (first | refine DR.seq ?_ | refine DR.block ?_ | refine DR.skip ?_ | refine DR.inBlock ?_)
    exact DR.only [0, 3, 5, 6] hgo'
  · have hlt1 : i - 1 < L.length := by omega
    have hp1 := List.getElem?_eq_getElem hlt1
    obtain ⟨b1, b2⟩ := all_at (all_block (H := H) hne) (by simp) hlt1
    have b3 := b2 (.str L[i - 1].1) (by simp [hp1])
    have hw : IntKind.i64.wrap ((i : Int) - 1) = ((i - 1 : Nat) : Int) := by
      have e : (i : Int) - 1 = ((i - 1 : Nat) : Int) := by omega
      rw [e]; exact wrap64 (by omega)
    have hrise : Op.bytesLess L[i - 1].1.toList L[i].1.toList = true := by
      rw [less_iff]
      exact List.pairwise_iff_getElem.mp hb.same.sorted (i - 1) i hlt1 hlt (by omega)
    refine DR.only [0, 3, 5, 6] ?_
    refine mid4p a1 a3 n1 n2 n3 (by simp; omega) hw b1 b3 hrise ?_
    refine DR.no rfl ?_
    repeat' (first | refine DR.seq ?_ | refine DR.block ?_ | refine DR.skip ?_ | refine DR.inBlock ?_)
    exact DR.only [0, 3, 5, 6] hgo'

/-- The acts' pids, one by one. -/
theorem third4 {H : AHeap} {x : AVal} {l : List ActT} (hp : Play2 x l) (hl1000 : l.length ≤ 1000) {n m1 m2 : Nat} {A : List Rec} {L : List (ByteArray × Int)} {c1 c2 : Nat} (hb : Nam H n m1 m2 A L c1 c2) {i : Nat} {a : ActT} (hi : l[i]? = some a) {k : List AItem} {Q : Env → AHeap → Prop}
    (hgo : DR Try.prog (kof k4) 150 (.inLoop l4_2 :: k) [(0, x), (3, .ptr n 0), (11, .int .i64 ((i + 1 : Nat) : Int))] H Q) :
    DR Try.prog (kof k4) 150 (.code l4_2 :: .inLoop l4_2 :: k) [(0, x), (3, .ptr n 0), (11, .int .i64 (i : Int))] H Q := by
  obtain ⟨cs, hy, hld⟩ := hp.pid i a hi
  have hil : i < l.length := (List.getElem?_eq_some_iff.mp hi).1
  have hl := hp.len
  have hcmp : decide ((i : Int) < (l.length : Int)) = true := by simp; omega
  have hw : IntKind.i64.wrap ((i : Int) + 1) = ((i + 1 : Nat) : Int) := wrap64 (n := i + 1) (by omega)
  repeat' (first | refine DR.seq ?_ | refine DR.block ?_ | refine DR.skip ?_ | refine DR.inBlock ?_)
  refine DR.ops ?_
  simp -dsimp only [r4_23, DO_nil, DO_cons, OR'_nil, OR'_cons, onW_t, onW_f, onN_v, onN_c, onN_a, onB_t, onB_f, wantedA, astep, Env.val, Env.vals, Env.put, Env.set, Env.get, envFrom, Env.keep, afaddr, aun, AVal.cells, Option.bind_eq_bind, Option.bind_some, Option.pure_def, Nat.reduceEqDiff, Nat.succ_ne_self, if_true, if_false, reduceIte, Option.map_some, List.drop_zero, List.drop_succ_cons, List.length_cons, List.length_nil, Nat.reduceAdd, Nat.reduceLeDiff, Nat.zero_le, Nat.le_refl, List.getElem?_cons_zero, List.getElem?_cons_succ, beq_self_eq_true, Bool.false_eq_true, aundef, Nat.zero_add, Nat.add_zero, Bool.not_true, Bool.not_false, Bool.xor_false, Bool.false_xor, Bool.true_xor, Bool.xor_true, and_self, true_and, and_true, hl, abin, hcmp]
  refine DR.yes rfl ?_
  repeat' (first | refine DR.seq ?_ | refine DR.block ?_ | refine DR.skip ?_ | refine DR.inBlock ?_)
  refine DR.ops ?_
  simp -dsimp only [r4_25, DO_nil, DO_cons, OR'_nil, OR'_cons, onW_t, onW_f, onN_v, onN_c, onN_a, onB_t, onB_f, wantedA, astep, Env.val, Env.vals, Env.put, Env.set, Env.get, envFrom, Env.keep, afaddr, aun, AVal.cells, Option.bind_eq_bind, Option.bind_some, Option.pure_def, Nat.reduceEqDiff, Nat.succ_ne_self, if_true, if_false, reduceIte, Option.map_some, List.drop_zero, List.drop_succ_cons, List.length_cons, List.length_nil, Nat.reduceAdd, Nat.reduceLeDiff, Nat.zero_le, Nat.le_refl, List.getElem?_cons_zero, List.getElem?_cons_succ, beq_self_eq_true, Bool.false_eq_true, aundef, Nat.zero_add, Nat.add_zero, Bool.not_true, Bool.not_false, Bool.xor_false, Bool.false_xor, Bool.true_xor, Bool.xor_true, and_self, true_and, and_true, hy, hld]
  refine (g10 hb.nam a.2.2).mono ?_
  rintro b H3 ⟨rfl, rfl⟩
  rcases hb.same.back a.2.2 with w | ⟨s, w, w2⟩
  · simp only [w, DO_nil, DO_cons, OR'_nil, OR'_cons, onW_t, onW_f, onN_v, onN_c, onN_a, onB_t, onB_f, wantedA, astep, Env.val, Env.vals, Env.put, Env.set, Env.get, envFrom, Env.keep, afaddr, aun, AVal.cells, Option.bind_eq_bind, Option.bind_some, Option.pure_def, Nat.reduceEqDiff, Nat.succ_ne_self, if_true, if_false, reduceIte, Option.map_some, List.drop_zero, List.drop_succ_cons, List.length_cons, List.length_nil, Nat.reduceAdd, Nat.reduceLeDiff, Nat.zero_le, Nat.le_refl, List.getElem?_cons_zero, List.getElem?_cons_succ, beq_self_eq_true, Bool.false_eq_true, aundef, Nat.zero_add, Nat.add_zero, Bool.not_true, Bool.not_false, Bool.xor_false, Bool.false_xor, Bool.true_xor, Bool.xor_true, and_self, true_and, and_true]
    repeat' (first | refine DR.seq ?_ | refine DR.block ?_ | refine DR.skip ?_ | refine DR.inBlock ?_)
    refine DR.ops ?_
    simp -dsimp only [r4_26, DO_nil, DO_cons, OR'_nil, OR'_cons, onW_t, onW_f, onN_v, onN_c, onN_a, onB_t, onB_f, wantedA, astep, Env.val, Env.vals, Env.put, Env.set, Env.get, envFrom, Env.keep, afaddr, aun, AVal.cells, Option.bind_eq_bind, Option.bind_some, Option.pure_def, Nat.reduceEqDiff, Nat.succ_ne_self, if_true, if_false, reduceIte, Option.map_some, List.drop_zero, List.drop_succ_cons, List.length_cons, List.length_nil, Nat.reduceAdd, Nat.reduceLeDiff, Nat.zero_le, Nat.le_refl, List.getElem?_cons_zero, List.getElem?_cons_succ, beq_self_eq_true, Bool.false_eq_true, aundef, Nat.zero_add, Nat.add_zero, Bool.not_true, Bool.not_false, Bool.xor_false, Bool.false_xor, Bool.true_xor, Bool.xor_true, and_self, true_and, and_true, Bool.not_false]
    refine DR.yes rfl ?_
    refine DR.exit rfl ?_
    repeat' (first | refine DR.seq ?_ | refine DR.block ?_ | refine DR.skip ?_ | refine DR.inBlock ?_)
    refine DR.ops ?_
    simp -dsimp only [r4_24, DO_nil, DO_cons, OR'_nil, OR'_cons, onW_t, onW_f, onN_v, onN_c, onN_a, onB_t, onB_f, wantedA, astep, Env.val, Env.vals, Env.put, Env.set, Env.get, envFrom, Env.keep, afaddr, aun, AVal.cells, Option.bind_eq_bind, Option.bind_some, Option.pure_def, Nat.reduceEqDiff, Nat.succ_ne_self, if_true, if_false, reduceIte, Option.map_some, List.drop_zero, List.drop_succ_cons, List.length_cons, List.length_nil, Nat.reduceAdd, Nat.reduceLeDiff, Nat.zero_le, Nat.le_refl, List.getElem?_cons_zero, List.getElem?_cons_succ, beq_self_eq_true, Bool.false_eq_true, aundef, Nat.zero_add, Nat.add_zero, Bool.not_true, Bool.not_false, Bool.xor_false, Bool.false_xor, Bool.true_xor, Bool.xor_true, and_self, true_and, and_true, abin, hw]
    exact hgo
  · simp only [w, DO_nil, DO_cons, OR'_nil, OR'_cons, onW_t, onW_f, onN_v, onN_c, onN_a, onB_t, onB_f, wantedA, astep, Env.val, Env.vals, Env.put, Env.set, Env.get, envFrom, Env.keep, afaddr, aun, AVal.cells, Option.bind_eq_bind, Option.bind_some, Option.pure_def, Nat.reduceEqDiff, Nat.succ_ne_self, if_true, if_false, reduceIte, Option.map_some, List.drop_zero, List.drop_succ_cons, List.length_cons, List.length_nil, Nat.reduceAdd, Nat.reduceLeDiff, Nat.zero_le, Nat.le_refl, List.getElem?_cons_zero, List.getElem?_cons_succ, beq_self_eq_true, Bool.false_eq_true, aundef, Nat.zero_add, Nat.add_zero, Bool.not_true, Bool.not_false, Bool.xor_false, Bool.false_xor, Bool.true_xor, Bool.xor_true, and_self, true_and, and_true]
    repeat' (first | refine DR.seq ?_ | refine DR.block ?_ | refine DR.skip ?_ | refine DR.inBlock ?_)
    refine DR.ops ?_
    simp -dsimp only [r4_26, DO_nil, DO_cons, OR'_nil, OR'_cons, onW_t, onW_f, onN_v, onN_c, onN_a, onB_t, onB_f, wantedA, astep, Env.val, Env.vals, Env.put, Env.set, Env.get, envFrom, Env.keep, afaddr, aun, AVal.cells, Option.bind_eq_bind, Option.bind_some, Option.pure_def, Nat.reduceEqDiff, Nat.succ_ne_self, if_true, if_false, reduceIte, Option.map_some, List.drop_zero, List.drop_succ_cons, List.length_cons, List.length_nil, Nat.reduceAdd, Nat.reduceLeDiff, Nat.zero_le, Nat.le_refl, List.getElem?_cons_zero, List.getElem?_cons_succ, beq_self_eq_true, Bool.false_eq_true, aundef, Nat.zero_add, Nat.add_zero, Bool.not_true, Bool.not_false, Bool.xor_false, Bool.false_xor, Bool.true_xor, Bool.xor_true, and_self, true_and, and_true, Bool.not_true]
    refine DR.no rfl ?_
    repeat' (first | refine DR.seq ?_ | refine DR.block ?_ | refine DR.skip ?_ | refine DR.inBlock ?_)
    refine DR.ops ?_
    simp -dsimp only [r4_27, DO_nil, DO_cons, OR'_nil, OR'_cons, onW_t, onW_f, onN_v, onN_c, onN_a, onB_t, onB_f, wantedA, astep, Env.val, Env.vals, Env.put, Env.set, Env.get, envFrom, Env.keep, afaddr, aun, AVal.cells, Option.bind_eq_bind, Option.bind_some, Option.pure_def, Nat.reduceEqDiff, Nat.succ_ne_self, if_true, if_false, reduceIte, Option.map_some, List.drop_zero, List.drop_succ_cons, List.length_cons, List.length_nil, Nat.reduceAdd, Nat.reduceLeDiff, Nat.zero_le, Nat.le_refl, List.getElem?_cons_zero, List.getElem?_cons_succ, beq_self_eq_true, Bool.false_eq_true, aundef, Nat.zero_add, Nat.add_zero, Bool.not_true, Bool.not_false, Bool.xor_false, Bool.false_xor, Bool.true_xor, Bool.xor_true, and_self, true_and, and_true]
    refine (g8 hb.nam s).mono ?_
    rintro b H3 ⟨rfl, rfl⟩
    simp only [w2, DO_nil, DO_cons, OR'_nil, OR'_cons, onW_t, onW_f, onN_v, onN_c, onN_a, onB_t, onB_f, wantedA, astep, Env.val, Env.vals, Env.put, Env.set, Env.get, envFrom, Env.keep, afaddr, aun, AVal.cells, Option.bind_eq_bind, Option.bind_some, Option.pure_def, Nat.reduceEqDiff, Nat.succ_ne_self, if_true, if_false, reduceIte, Option.map_some, List.drop_zero, List.drop_succ_cons, List.length_cons, List.length_nil, Nat.reduceAdd, Nat.reduceLeDiff, Nat.zero_le, Nat.le_refl, List.getElem?_cons_zero, List.getElem?_cons_succ, beq_self_eq_true, Bool.false_eq_true, aundef, Nat.zero_add, Nat.add_zero, Bool.not_true, Bool.not_false, Bool.xor_false, Bool.false_xor, Bool.true_xor, Bool.xor_true, and_self, true_and, and_true]
    repeat' (first | refine DR.seq ?_ | refine DR.block ?_ | refine DR.skip ?_ | refine DR.inBlock ?_)
    refine DR.ops ?_
    simp -dsimp only [r4_28, DO_nil, DO_cons, OR'_nil, OR'_cons, onW_t, onW_f, onN_v, onN_c, onN_a, onB_t, onB_f, wantedA, astep, Env.val, Env.vals, Env.put, Env.set, Env.get, envFrom, Env.keep, afaddr, aun, AVal.cells, Option.bind_eq_bind, Option.bind_some, Option.pure_def, Nat.reduceEqDiff, Nat.succ_ne_self, if_true, if_false, reduceIte, Option.map_some, List.drop_zero, List.drop_succ_cons, List.length_cons, List.length_nil, Nat.reduceAdd, Nat.reduceLeDiff, Nat.zero_le, Nat.le_refl, List.getElem?_cons_zero, List.getElem?_cons_succ, beq_self_eq_true, Bool.false_eq_true, aundef, Nat.zero_add, Nat.add_zero, Bool.not_true, Bool.not_false, Bool.xor_false, Bool.false_xor, Bool.true_xor, Bool.xor_true, and_self, true_and, and_true, Bool.not_true, hy, hld, abin, bne_self_eq_false]
    refine DR.no rfl ?_
    repeat' (first | refine DR.seq ?_ | refine DR.block ?_ | refine DR.skip ?_ | refine DR.inBlock ?_)
    refine DR.ops ?_
    simp -dsimp only [r4_24, DO_nil, DO_cons, OR'_nil, OR'_cons, onW_t, onW_f, onN_v, onN_c, onN_a, onB_t, onB_f, wantedA, astep, Env.val, Env.vals, Env.put, Env.set, Env.get, envFrom, Env.keep, afaddr, aun, AVal.cells, Option.bind_eq_bind, Option.bind_some, Option.pure_def, Nat.reduceEqDiff, Nat.succ_ne_self, if_true, if_false, reduceIte, Option.map_some, List.drop_zero, List.drop_succ_cons, List.length_cons, List.length_nil, Nat.reduceAdd, Nat.reduceLeDiff, Nat.zero_le, Nat.le_refl, List.getElem?_cons_zero, List.getElem?_cons_succ, beq_self_eq_true, Bool.false_eq_true, aundef, Nat.zero_add, Nat.add_zero, Bool.not_true, Bool.not_false, Bool.xor_false, Bool.false_xor, Bool.true_xor, Bool.xor_true, and_self, true_and, and_true, abin, hw]
    exact hgo

theorem loop4b {H : AHeap} {x : AVal} {n m1 m2 : Nat} {A : List Rec} {L : List (ByteArray × Int)} {c1 c2 : Nat} (hb : Nam (allHeap H L) n m1 m2 A L c1 c2) (hL : L.length ≤ 1000) {k k' : List AItem} {Q : Env → AHeap → Prop} (hk : aexitTo 2 k = some k')
    (hend : DR Try.prog (kof k4) 150 k' [(0, x), (3, .ptr n 0)] (allHeap H L) Q) :
    ∀ (d i : Nat), i + d = L.length → DR Try.prog (kof k4) 150 (.code l4_1 :: .inLoop l4_1 :: k) [(0, x), (3, .ptr n 0), (5, allVal H L), (6, .int .i64 (i : Int))] (allHeap H L) Q := by
  intro d
  induction d with
  | zero =>
    intro i hi
    obtain rfl : i = L.length := by omega
    have hla := all_len H (allHeap H L) L
    repeat' (first | refine DR.seq ?_ | refine DR.block ?_ | refine DR.skip ?_ | refine DR.inBlock ?_)
    refine DR.ops ?_
    simp -dsimp only [r4_14, DO_nil, DO_cons, OR'_nil, OR'_cons, onW_t, onW_f, onN_v, onN_c, onN_a, onB_t, onB_f, wantedA, astep, Env.val, Env.vals, Env.put, Env.set, Env.get, envFrom, Env.keep, afaddr, aun, AVal.cells, Option.bind_eq_bind, Option.bind_some, Option.pure_def, Nat.reduceEqDiff, Nat.succ_ne_self, if_true, if_false, reduceIte, Option.map_some, List.drop_zero, List.drop_succ_cons, List.length_cons, List.length_nil, Nat.reduceAdd, Nat.reduceLeDiff, Nat.zero_le, Nat.le_refl, List.getElem?_cons_zero, List.getElem?_cons_succ, beq_self_eq_true, Bool.false_eq_true, aundef, Nat.zero_add, Nat.add_zero, Bool.not_true, Bool.not_false, Bool.xor_false, Bool.false_xor, Bool.true_xor, Bool.xor_true, and_self, true_and, and_true, hla, abin, Int.lt_irrefl, decide_false]
    refine DR.no rfl ?_
    refine DR.exit (k' := k') (by simpa [aexitTo] using hk) ?_
    refine DR.only [0, 3] ?_
    exact hend
  | succ d ih =>
    intro i hi
    exact second4 hb hL (by omega) (DR.inLoop (ih (i + 1) (by omega)))

theorem loop4c {H : AHeap} {x : AVal} {l : List ActT} (hp : Play2 x l) (hl1000 : l.length ≤ 1000) {n m1 m2 : Nat} {A : List Rec} {L : List (ByteArray × Int)} {c1 c2 : Nat} (hb : Nam H n m1 m2 A L c1 c2) {k k' : List AItem} {Q : Env → AHeap → Prop} (hk : aexitTo 4 k = some k')
    (hend : DR Try.prog (kof k4) 150 k' [] H Q) :
    ∀ (d i : Nat), i + d = l.length → DR Try.prog (kof k4) 150 (.code l4_2 :: .inLoop l4_2 :: k) [(0, x), (3, .ptr n 0), (11, .int .i64 (i : Int))] H Q := by
  intro d
  induction d with
  | zero =>
    intro i hi
    obtain rfl : i = l.length := by omega
    have hl := hp.len
    repeat' (first | refine DR.seq ?_ | refine DR.block ?_ | refine DR.skip ?_ | refine DR.inBlock ?_)
    refine DR.ops ?_
    simp -dsimp only [r4_23, DO_nil, DO_cons, OR'_nil, OR'_cons, onW_t, onW_f, onN_v, onN_c, onN_a, onB_t, onB_f, wantedA, astep, Env.val, Env.vals, Env.put, Env.set, Env.get, envFrom, Env.keep, afaddr, aun, AVal.cells, Option.bind_eq_bind, Option.bind_some, Option.pure_def, Nat.reduceEqDiff, Nat.succ_ne_self, if_true, if_false, reduceIte, Option.map_some, List.drop_zero, List.drop_succ_cons, List.length_cons, List.length_nil, Nat.reduceAdd, Nat.reduceLeDiff, Nat.zero_le, Nat.le_refl, List.getElem?_cons_zero, List.getElem?_cons_succ, beq_self_eq_true, Bool.false_eq_true, aundef, Nat.zero_add, Nat.add_zero, Bool.not_true, Bool.not_false, Bool.xor_false, Bool.false_xor, Bool.true_xor, Bool.xor_true, and_self, true_and, and_true, hl, abin, Int.lt_irrefl, decide_false]
    refine DR.no rfl ?_
    refine DR.exit (k' := k') (by simpa [aexitTo] using hk) ?_
    refine DR.only [] ?_
    exact hend
  | succ d ih =>
    intro i hi
    have hlt : i < l.length := by omega
    exact third4 hp hl1000 hb (List.getElem?_eq_getElem hlt) (DR.inLoop (ih (i + 1) (by omega)))

theorem all_call1 {H : AHeap} {n m1 m2 : Nat} {A : List Rec} {L : List (ByteArray × Int)} {c1 c2 : Nat} (hb : Nam H n m1 m2 A L c1 c2) (hL : L.length ≤ 1000) : DCall Try.prog 12 [.ptr n 0] H fun a H' => a = allVal H L ∧ H' = allHeap H L := by
  have hll : A.length = L.length := by have := hb.same.perm.length_eq; simpa using this
  exact ⟨_, _, ⟨rfl, rfl⟩, g12 hb.nam hb.same (by omega)⟩

theorem g4 {H : AHeap} {x : AVal} {l : List ActT} (hp : Play2 x l) : DCall Try.prog 4 [x] H fun a H' => a = .bool true := by
  refine DCall.of_body (fn := Try.f4) (by kernel_rfl) c4 (by kernel_rfl) (by simp [f4]) ?_
  unfold f4
  simp only []
  repeat' (first | refine DR.seq ?_ | refine DR.block ?_ | refine DR.skip ?_ | refine DR.inBlock ?_)
  refine DR.ops ?_
  simp -dsimp only [r4_0, DO_nil, DO_cons, OR'_nil, OR'_cons, onW_t, onW_f, onN_v, onN_c, onN_a, onB_t, onB_f, wantedA, astep, Env.val, Env.vals, Env.put, Env.set, Env.get, envFrom, Env.keep, afaddr, aun, AVal.cells, Option.bind_eq_bind, Option.bind_some, Option.pure_def, Nat.reduceEqDiff, Nat.succ_ne_self, if_true, if_false, reduceIte, Option.map_some, List.drop_zero, List.drop_succ_cons, List.length_cons, List.length_nil, Nat.reduceAdd, Nat.reduceLeDiff, Nat.zero_le, Nat.le_refl, List.getElem?_cons_zero, List.getElem?_cons_succ, beq_self_eq_true, Bool.false_eq_true, aundef, Nat.zero_add, Nat.add_zero, Bool.not_true, Bool.not_false, Bool.xor_false, Bool.false_xor, Bool.true_xor, Bool.xor_true, and_self, true_and, and_true]
  repeat' (first | refine DR.seq ?_ | refine DR.block ?_ | refine DR.skip ?_ | refine DR.inBlock ?_)
  refine DR.ops ?_
  simp -dsimp only [r4_1, DO_nil, DO_cons, OR'_nil, OR'_cons, onW_t, onW_f, onN_v, onN_c, onN_a, onB_t, onB_f, wantedA, astep, Env.val, Env.vals, Env.put, Env.set, Env.get, envFrom, Env.keep, afaddr, aun, AVal.cells, Option.bind_eq_bind, Option.bind_some, Option.pure_def, Nat.reduceEqDiff, Nat.succ_ne_self, if_true, if_false, reduceIte, Option.map_some, List.drop_zero, List.drop_succ_cons, List.length_cons, List.length_nil, Nat.reduceAdd, Nat.reduceLeDiff, Nat.zero_le, Nat.le_refl, List.getElem?_cons_zero, List.getElem?_cons_succ, beq_self_eq_true, Bool.false_eq_true, aundef, Nat.zero_add, Nat.add_zero, Bool.not_true, Bool.not_false, Bool.xor_false, Bool.false_xor, Bool.true_xor, Bool.xor_true, and_self, true_and, and_true]
  refine (g5 H).mono ?_
  rintro a H1 ⟨rfl, n1, f1⟩
  simp only [DO_nil, DO_cons, OR'_nil, OR'_cons, onW_t, onW_f, onN_v, onN_c, onN_a, onB_t, onB_f, wantedA, astep, Env.val, Env.vals, Env.put, Env.set, Env.get, envFrom, Env.keep, afaddr, aun, AVal.cells, Option.bind_eq_bind, Option.bind_some, Option.pure_def, Nat.reduceEqDiff, Nat.succ_ne_self, if_true, if_false, reduceIte, Option.map_some, List.drop_zero, List.drop_succ_cons, List.length_cons, List.length_nil, Nat.reduceAdd, Nat.reduceLeDiff, Nat.zero_le, Nat.le_refl, List.getElem?_cons_zero, List.getElem?_cons_succ, beq_self_eq_true, Bool.false_eq_true, aundef, Nat.zero_add, Nat.add_zero, Bool.not_true, Bool.not_false, Bool.xor_false, Bool.false_xor, Bool.true_xor, Bool.xor_true, and_self, true_and, and_true]
  refine DR.no rfl ?_
  repeat' (first | refine DR.seq ?_ | refine DR.block ?_ | refine DR.skip ?_ | refine DR.inBlock ?_)
  refine DR.ops ?_
  have hl := hp.len
  simp -dsimp only [r4_3, DO_nil, DO_cons, OR'_nil, OR'_cons, onW_t, onW_f, onN_v, onN_c, onN_a, onB_t, onB_f, wantedA, astep, Env.val, Env.vals, Env.put, Env.set, Env.get, envFrom, Env.keep, afaddr, aun, AVal.cells, Option.bind_eq_bind, Option.bind_some, Option.pure_def, Nat.reduceEqDiff, Nat.succ_ne_self, if_true, if_false, reduceIte, Option.map_some, List.drop_zero, List.drop_succ_cons, List.length_cons, List.length_nil, Nat.reduceAdd, Nat.reduceLeDiff, Nat.zero_le, Nat.le_refl, List.getElem?_cons_zero, List.getElem?_cons_succ, beq_self_eq_true, Bool.false_eq_true, aundef, Nat.zero_add, Nat.add_zero, Bool.not_true, Bool.not_false, Bool.xor_false, Bool.false_xor, Bool.true_xor, Bool.xor_true, and_self, true_and, and_true, hl, abin]
  cases hbig : decide ((l.length : Int) > 1000) with
  | true =>
    refine DR.yes rfl ?_
    repeat' (first | refine DR.seq ?_ | refine DR.block ?_ | refine DR.skip ?_ | refine DR.inBlock ?_)
    refine DR.ops ?_
    simp -dsimp only [r4_4, DO_nil, DO_cons, OR'_nil, OR'_cons, onW_t, onW_f, onN_v, onN_c, onN_a, onB_t, onB_f, wantedA, astep, Env.val, Env.vals, Env.put, Env.set, Env.get, envFrom, Env.keep, afaddr, aun, AVal.cells, Option.bind_eq_bind, Option.bind_some, Option.pure_def, Nat.reduceEqDiff, Nat.succ_ne_self, if_true, if_false, reduceIte, Option.map_some, List.drop_zero, List.drop_succ_cons, List.length_cons, List.length_nil, Nat.reduceAdd, Nat.reduceLeDiff, Nat.zero_le, Nat.le_refl, List.getElem?_cons_zero, List.getElem?_cons_succ, beq_self_eq_true, Bool.false_eq_true, aundef, Nat.zero_add, Nat.add_zero, Bool.not_true, Bool.not_false, Bool.xor_false, Bool.false_xor, Bool.true_xor, Bool.xor_true, and_self, true_and, and_true]
    exact DR.ret ⟨_, by simp [aresult, ares, Env.get] <;> rfl, rfl⟩
  | false =>
    have hsmall : l.length ≤ 1000 := by simp at hbig; omega
    refine DR.no rfl ?_
    repeat' (first | refine DR.seq ?_ | refine DR.block ?_ | refine DR.skip ?_ | refine DR.inBlock ?_)
    refine DR.ops ?_
    simp -dsimp only [r4_5, DO_nil, DO_cons, OR'_nil, OR'_cons, onW_t, onW_f, onN_v, onN_c, onN_a, onB_t, onB_f, wantedA, astep, Env.val, Env.vals, Env.put, Env.set, Env.get, envFrom, Env.keep, afaddr, aun, AVal.cells, Option.bind_eq_bind, Option.bind_some, Option.pure_def, Nat.reduceEqDiff, Nat.succ_ne_self, if_true, if_false, reduceIte, Option.map_some, List.drop_zero, List.drop_succ_cons, List.length_cons, List.length_nil, Nat.reduceAdd, Nat.reduceLeDiff, Nat.zero_le, Nat.le_refl, List.getElem?_cons_zero, List.getElem?_cons_succ, beq_self_eq_true, Bool.false_eq_true, aundef, Nat.zero_add, Nat.add_zero, Bool.not_true, Bool.not_false, Bool.xor_false, Bool.false_xor, Bool.true_xor, Bool.xor_true, and_self, true_and, and_true]
    refine (g6 H1).mono ?_
    rintro a H2 ⟨rfl, rfl⟩
    simp only [DO_nil, DO_cons, OR'_nil, OR'_cons, onW_t, onW_f, onN_v, onN_c, onN_a, onB_t, onB_f, wantedA, astep, Env.val, Env.vals, Env.put, Env.set, Env.get, envFrom, Env.keep, afaddr, aun, AVal.cells, Option.bind_eq_bind, Option.bind_some, Option.pure_def, Nat.reduceEqDiff, Nat.succ_ne_self, if_true, if_false, reduceIte, Option.map_some, List.drop_zero, List.drop_succ_cons, List.length_cons, List.length_nil, Nat.reduceAdd, Nat.reduceLeDiff, Nat.zero_le, Nat.le_refl, List.getElem?_cons_zero, List.getElem?_cons_succ, beq_self_eq_true, Bool.false_eq_true, aundef, Nat.zero_add, Nat.add_zero, Bool.not_true, Bool.not_false, Bool.xor_false, Bool.false_xor, Bool.true_xor, Bool.xor_true, and_self, true_and, and_true]
    repeat' (first | refine DR.seq ?_ | refine DR.block ?_ | refine DR.skip ?_ | refine DR.inBlock ?_)
    refine DR.ops ?_
    simp -dsimp only [r4_6, DO_nil, DO_cons, OR'_nil, OR'_cons, onW_t, onW_f, onN_v, onN_c, onN_a, onB_t, onB_f, wantedA, astep, Env.val, Env.vals, Env.put, Env.set, Env.get, envFrom, Env.keep, afaddr, aun, AVal.cells, Option.bind_eq_bind, Option.bind_some, Option.pure_def, Nat.reduceEqDiff, Nat.succ_ne_self, if_true, if_false, reduceIte, Option.map_some, List.drop_zero, List.drop_succ_cons, List.length_cons, List.length_nil, Nat.reduceAdd, Nat.reduceLeDiff, Nat.zero_le, Nat.le_refl, List.getElem?_cons_zero, List.getElem?_cons_succ, beq_self_eq_true, Bool.false_eq_true, aundef, Nat.zero_add, Nat.add_zero, Bool.not_true, Bool.not_false, Bool.xor_false, Bool.false_xor, Bool.true_xor, Bool.xor_true, and_self, true_and, and_true, anil]
    refine DR.no rfl ?_
    repeat' (first | refine DR.seq ?_ | refine DR.block ?_ | refine DR.skip ?_ | refine DR.inBlock ?_)
    refine DR.ops ?_
    simp -dsimp only [r4_8, DO_nil, DO_cons, OR'_nil, OR'_cons, onW_t, onW_f, onN_v, onN_c, onN_a, onB_t, onB_f, wantedA, astep, Env.val, Env.vals, Env.put, Env.set, Env.get, envFrom, Env.keep, afaddr, aun, AVal.cells, Option.bind_eq_bind, Option.bind_some, Option.pure_def, Nat.reduceEqDiff, Nat.succ_ne_self, if_true, if_false, reduceIte, Option.map_some, List.drop_zero, List.drop_succ_cons, List.length_cons, List.length_nil, Nat.reduceAdd, Nat.reduceLeDiff, Nat.zero_le, Nat.le_refl, List.getElem?_cons_zero, List.getElem?_cons_succ, beq_self_eq_true, Bool.false_eq_true, aundef, Nat.zero_add, Nat.add_zero, Bool.not_true, Bool.not_false, Bool.xor_false, Bool.false_xor, Bool.true_xor, Bool.xor_true, and_self, true_and, and_true]
    refine DR.block ?_
    refine DR.loop ?_
    refine rounds4 hp.toPlay hsmall rfl ?_ l.length 0 [] [] 0 0 _ (by omega) (by simp) ⟨newHeap_at H1, sameNew⟩
    intro A' L' c1' c2' H' hb hL
    repeat' (first | refine DR.seq ?_ | refine DR.block ?_ | refine DR.skip ?_ | refine DR.inBlock ?_)
    refine DR.ops ?_
    simp -dsimp only [r4_12, DO_nil, DO_cons, OR'_nil, OR'_cons, onW_t, onW_f, onN_v, onN_c, onN_a, onB_t, onB_f, wantedA, astep, Env.val, Env.vals, Env.put, Env.set, Env.get, envFrom, Env.keep, afaddr, aun, AVal.cells, Option.bind_eq_bind, Option.bind_some, Option.pure_def, Nat.reduceEqDiff, Nat.succ_ne_self, if_true, if_false, reduceIte, Option.map_some, List.drop_zero, List.drop_succ_cons, List.length_cons, List.length_nil, Nat.reduceAdd, Nat.reduceLeDiff, Nat.zero_le, Nat.le_refl, List.getElem?_cons_zero, List.getElem?_cons_succ, beq_self_eq_true, Bool.false_eq_true, aundef, Nat.zero_add, Nat.add_zero, Bool.not_true, Bool.not_false, Bool.xor_false, Bool.false_xor, Bool.true_xor, Bool.xor_true, and_self, true_and, and_true]
    refine (all_call1 hb hL).mono ?_
    rintro a H2 ⟨rfl, rfl⟩
    simp only [DO_nil, DO_cons, OR'_nil, OR'_cons, onW_t, onW_f, onN_v, onN_c, onN_a, onB_t, onB_f, wantedA, astep, Env.val, Env.vals, Env.put, Env.set, Env.get, envFrom, Env.keep, afaddr, aun, AVal.cells, Option.bind_eq_bind, Option.bind_some, Option.pure_def, Nat.reduceEqDiff, Nat.succ_ne_self, if_true, if_false, reduceIte, Option.map_some, List.drop_zero, List.drop_succ_cons, List.length_cons, List.length_nil, Nat.reduceAdd, Nat.reduceLeDiff, Nat.zero_le, Nat.le_refl, List.getElem?_cons_zero, List.getElem?_cons_succ, beq_self_eq_true, Bool.false_eq_true, aundef, Nat.zero_add, Nat.add_zero, Bool.not_true, Bool.not_false, Bool.xor_false, Bool.false_xor, Bool.true_xor, Bool.xor_true, and_self, true_and, and_true]
    repeat' (first | refine DR.seq ?_ | refine DR.block ?_ | refine DR.skip ?_ | refine DR.inBlock ?_)
    refine DR.ops ?_
    simp -dsimp only [r4_13, DO_nil, DO_cons, OR'_nil, OR'_cons, onW_t, onW_f, onN_v, onN_c, onN_a, onB_t, onB_f, wantedA, astep, Env.val, Env.vals, Env.put, Env.set, Env.get, envFrom, Env.keep, afaddr, aun, AVal.cells, Option.bind_eq_bind, Option.bind_some, Option.pure_def, Nat.reduceEqDiff, Nat.succ_ne_self, if_true, if_false, reduceIte, Option.map_some, List.drop_zero, List.drop_succ_cons, List.length_cons, List.length_nil, Nat.reduceAdd, Nat.reduceLeDiff, Nat.zero_le, Nat.le_refl, List.getElem?_cons_zero, List.getElem?_cons_succ, beq_self_eq_true, Bool.false_eq_true, aundef, Nat.zero_add, Nat.add_zero, Bool.not_true, Bool.not_false, Bool.xor_false, Bool.false_xor, Bool.true_xor, Bool.xor_true, and_self, true_and, and_true]
    refine DR.block ?_
    refine DR.loop ?_
    have hb2 := hb.push (all_next H' L').2
    refine loop4b hb2 hL rfl ?_ L'.length 0 (by omega)
    repeat' (first | refine DR.seq ?_ | refine DR.block ?_ | refine DR.skip ?_ | refine DR.inBlock ?_)
    refine DR.ops ?_
    simp -dsimp only [r4_22, DO_nil, DO_cons, OR'_nil, OR'_cons, onW_t, onW_f, onN_v, onN_c, onN_a, onB_t, onB_f, wantedA, astep, Env.val, Env.vals, Env.put, Env.set, Env.get, envFrom, Env.keep, afaddr, aun, AVal.cells, Option.bind_eq_bind, Option.bind_some, Option.pure_def, Nat.reduceEqDiff, Nat.succ_ne_self, if_true, if_false, reduceIte, Option.map_some, List.drop_zero, List.drop_succ_cons, List.length_cons, List.length_nil, Nat.reduceAdd, Nat.reduceLeDiff, Nat.zero_le, Nat.le_refl, List.getElem?_cons_zero, List.getElem?_cons_succ, beq_self_eq_true, Bool.false_eq_true, aundef, Nat.zero_add, Nat.add_zero, Bool.not_true, Bool.not_false, Bool.xor_false, Bool.false_xor, Bool.true_xor, Bool.xor_true, and_self, true_and, and_true]
    refine DR.block ?_
    refine DR.loop ?_
    refine loop4c hp hsmall hb2 rfl ?_ l.length 0 (by omega)
    repeat' (first | refine DR.seq ?_ | refine DR.block ?_ | refine DR.skip ?_ | refine DR.inBlock ?_)
    refine DR.ops ?_
    simp -dsimp only [r4_30, DO_nil, DO_cons, OR'_nil, OR'_cons, onW_t, onW_f, onN_v, onN_c, onN_a, onB_t, onB_f, wantedA, astep, Env.val, Env.vals, Env.put, Env.set, Env.get, envFrom, Env.keep, afaddr, aun, AVal.cells, Option.bind_eq_bind, Option.bind_some, Option.pure_def, Nat.reduceEqDiff, Nat.succ_ne_self, if_true, if_false, reduceIte, Option.map_some, List.drop_zero, List.drop_succ_cons, List.length_cons, List.length_nil, Nat.reduceAdd, Nat.reduceLeDiff, Nat.zero_le, Nat.le_refl, List.getElem?_cons_zero, List.getElem?_cons_succ, beq_self_eq_true, Bool.false_eq_true, aundef, Nat.zero_add, Nat.add_zero, Bool.not_true, Bool.not_false, Bool.xor_false, Bool.false_xor, Bool.true_xor, Bool.xor_true, and_self, true_and, and_true]
    exact DR.ret ⟨_, by simp [aresult, ares, Env.get] <;> rfl, rfl⟩
end Go.Am.Rn
