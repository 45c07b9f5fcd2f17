import Derived.Test.YtakbdcikjpmmiaaFn
set_option linter.unusedVariables false
set_option linter.unusedSimpArgs false
namespace Go.Am.Rn
open Go.Proofs

/-- The document's registry, at an address. -/
structure RefAt (H : AHeap) (r : Nat) (L : List (ByteArray × Int)) (e : TypeId) (x y : AVal) : Prop where
  blk : H.get r = some (.cells e [x, y])
  nms : Row H 9 x (L.map fun p => .str p.1)
  pds : Row H 3 y (L.map fun p => .int .i64 p.2)
  sep1 : rid x ≠ some r
  sep2 : rid y ≠ some r
  len : L.length < 100000

/-- Whose a name is. -/
def whose (L : List (ByteArray × Int)) (s : ByteArray) : AVal := match L.find? (fun p => p.1.toList == s.toList) with
  | some p => .tup [.int .i64 p.2, .bool true]
  | none => .tup [.int .i64 0, .bool false]

theorem g9 {H : AHeap} {r : Nat} {L : List (ByteArray × Int)} {e : TypeId} {x y : AVal} (h : RefAt H r L e x y) (s : ByteArray) : DCall Try.prog 9 [.ptr r 0, .str s] H fun a H' => H' = H ∧ a = whose L s := by
  refine DCall.of_body (fn := Try.f9) (by kernel_rfl) c9 (by kernel_rfl) (by simp [f9]) ?_
  have hx := load_cell h.blk (o := 0) (v := x) rfl
  have hy := load_cell h.blk (o := 1) (v := y) rfl
  have hl := h.nms.alenT (H' := H)
  rw [List.length_map] at hl
  unfold f9
  simp only []
  repeat' (first | refine DR.seq ?_ | refine DR.block ?_ | refine DR.skip ?_ | refine DR.inBlock ?_)
  refine DR.ops ?_
  simp only [r9_0, DO_nil, DO_cons, OR'_nil, OR'_cons, onW_t, onW_f, onN_v, onN_c, onN_a, onB_t, onB_f, wantedA, astep, Env.val, Env.vals, Env.put, Env.set, Env.get, envFrom, Env.keep, afaddr, aun, AVal.cells, Option.bind_eq_bind, Option.bind_some, Option.pure_def, Nat.reduceEqDiff, Nat.succ_ne_self, if_true, if_false, reduceIte, Option.map_some, List.drop_zero, List.drop_succ_cons, List.length_cons, List.length_nil, Nat.reduceAdd, Nat.reduceLeDiff, Nat.zero_le, Nat.le_refl, List.getElem?_cons_zero, List.getElem?_cons_succ, beq_self_eq_true, Bool.false_eq_true, aundef, Nat.zero_add, Nat.add_zero, Bool.not_true, Bool.not_false, Bool.xor_false, Bool.false_xor, Bool.true_xor, Bool.xor_true, and_self, true_and, and_true]
  repeat' (first | refine DR.seq ?_ | refine DR.block ?_ | refine DR.skip ?_ | refine DR.inBlock ?_)
  refine DR.ops ?_
  simp only [r9_1, DO_nil, DO_cons, OR'_nil, OR'_cons, onW_t, onW_f, onN_v, onN_c, onN_a, onB_t, onB_f, wantedA, astep, Env.val, Env.vals, Env.put, Env.set, Env.get, envFrom, Env.keep, afaddr, aun, AVal.cells, Option.bind_eq_bind, Option.bind_some, Option.pure_def, Nat.reduceEqDiff, Nat.succ_ne_self, if_true, if_false, reduceIte, Option.map_some, List.drop_zero, List.drop_succ_cons, List.length_cons, List.length_nil, Nat.reduceAdd, Nat.reduceLeDiff, Nat.zero_le, Nat.le_refl, List.getElem?_cons_zero, List.getElem?_cons_succ, beq_self_eq_true, Bool.false_eq_true, aundef, Nat.zero_add, Nat.add_zero, Bool.not_true, Bool.not_false, Bool.xor_false, Bool.false_xor, Bool.true_xor, Bool.xor_true, and_self, true_and, and_true]
  refine DR.block ?_
  refine DR.loop ?_
  have loop : ∀ (d i : Nat), i + d = L.length → (∀ j, j < i → ∀ p, L[j]? = some p → (p.1.toList == s.toList) = false) → DR Try.prog (kof k9) 32 [.code l9_0, .inLoop l9_0, .inBlock 0, .code ((ACode.region false r9_6 [4, 5]).seq .ret)] [(0, .ptr r 0), (1, .str s), (6, .int .i64 i)] H fun T' H' => ∃ a, aresult H' T' [ARes.tmp 4, ARes.tmp 5] = some a ∧ H' = H ∧ a = whose L s := by
    intro d
    induction d with
    | zero =>
      intro i hi hno
      obtain rfl : i = L.length := by omega
      repeat' (first | refine DR.seq ?_ | refine DR.block ?_ | refine DR.skip ?_ | refine DR.inBlock ?_)
      refine DR.ops ?_
      simp only [r9_2, DO_nil, DO_cons, OR'_nil, OR'_cons, onW_t, onW_f, onN_v, onN_c, onN_a, onB_t, onB_f, wantedA, astep, Env.val, Env.vals, Env.put, Env.set, Env.get, envFrom, Env.keep, afaddr, aun, AVal.cells, Option.bind_eq_bind, Option.bind_some, Option.pure_def, Nat.reduceEqDiff, Nat.succ_ne_self, if_true, if_false, reduceIte, Option.map_some, List.drop_zero, List.drop_succ_cons, List.length_cons, List.length_nil, Nat.reduceAdd, Nat.reduceLeDiff, Nat.zero_le, Nat.le_refl, List.getElem?_cons_zero, List.getElem?_cons_succ, beq_self_eq_true, Bool.false_eq_true, aundef, Nat.zero_add, Nat.add_zero, Bool.not_true, Bool.not_false, Bool.xor_false, Bool.false_xor, Bool.true_xor, Bool.xor_true, and_self, true_and, and_true, hx, hl, abin, Int.lt_irrefl, decide_false]
      refine DR.no rfl ?_
      refine DR.exit rfl ?_
      repeat' (first | refine DR.seq ?_ | refine DR.block ?_ | refine DR.skip ?_ | refine DR.inBlock ?_)
      refine DR.ops ?_
      simp only [r9_6, DO_nil, DO_cons, OR'_nil, OR'_cons, onW_t, onW_f, onN_v, onN_c, onN_a, onB_t, onB_f, wantedA, astep, Env.val, Env.vals, Env.put, Env.set, Env.get, envFrom, Env.keep, afaddr, aun, AVal.cells, Option.bind_eq_bind, Option.bind_some, Option.pure_def, Nat.reduceEqDiff, Nat.succ_ne_self, if_true, if_false, reduceIte, Option.map_some, List.drop_zero, List.drop_succ_cons, List.length_cons, List.length_nil, Nat.reduceAdd, Nat.reduceLeDiff, Nat.zero_le, Nat.le_refl, List.getElem?_cons_zero, List.getElem?_cons_succ, beq_self_eq_true, Bool.false_eq_true, aundef, Nat.zero_add, Nat.add_zero, Bool.not_true, Bool.not_false, Bool.xor_false, Bool.false_xor, Bool.true_xor, Bool.xor_true, and_self, true_and, and_true]
      refine DR.ret ⟨_, by simp [aresult, ares, Env.get] <;> rfl, rfl, ?_⟩
      have : L.find? (fun p => p.1.toList == s.toList) = none := by
        rw [List.find?_eq_none]
        intro p hp
        obtain ⟨j, hj⟩ := List.mem_iff_getElem?.mp hp
        have := hno j (List.getElem?_eq_some_iff.mp hj).1 p hj
        rw [this]; simp
      simp [whose, this]
    | succ d ih =>
      intro i hi hno
      have hlt : i < L.length := by omega
      obtain ⟨p, hp⟩ : ∃ p, L[i]? = some p := ⟨_, List.getElem?_eq_getElem hlt⟩
      have ha := h.nms.addr H (k := .i64) (i := i) (by simpa using hlt)
      have hld := h.nms.load (i := i) (v := .str p.1) (by simp [hp])
      repeat' (first | refine DR.seq ?_ | refine DR.block ?_ | refine DR.skip ?_ | refine DR.inBlock ?_)
      refine DR.ops ?_
      have hcmp : decide ((i : Int) < (L.length : Int)) = true := by simp; omega
      simp only [r9_2, DO_nil, DO_cons, OR'_nil, OR'_cons, onW_t, onW_f, onN_v, onN_c, onN_a, onB_t, onB_f, wantedA, astep, Env.val, Env.vals, Env.put, Env.set, Env.get, envFrom, Env.keep, afaddr, aun, AVal.cells, Option.bind_eq_bind, Option.bind_some, Option.pure_def, Nat.reduceEqDiff, Nat.succ_ne_self, if_true, if_false, reduceIte, Option.map_some, List.drop_zero, List.drop_succ_cons, List.length_cons, List.length_nil, Nat.reduceAdd, Nat.reduceLeDiff, Nat.zero_le, Nat.le_refl, List.getElem?_cons_zero, List.getElem?_cons_succ, beq_self_eq_true, Bool.false_eq_true, aundef, Nat.zero_add, Nat.add_zero, Bool.not_true, Bool.not_false, Bool.xor_false, Bool.false_xor, Bool.true_xor, Bool.xor_true, and_self, true_and, and_true, hx, hl, abin, hcmp]
      refine DR.yes rfl ?_
      repeat' (first | refine DR.seq ?_ | refine DR.block ?_ | refine DR.skip ?_ | refine DR.inBlock ?_)
      refine DR.ops ?_
      simp only [r9_4, DO_nil, DO_cons, OR'_nil, OR'_cons, onW_t, onW_f, onN_v, onN_c, onN_a, onB_t, onB_f, wantedA, astep, Env.val, Env.vals, Env.put, Env.set, Env.get, envFrom, Env.keep, afaddr, aun, AVal.cells, Option.bind_eq_bind, Option.bind_some, Option.pure_def, Nat.reduceEqDiff, Nat.succ_ne_self, if_true, if_false, reduceIte, Option.map_some, List.drop_zero, List.drop_succ_cons, List.length_cons, List.length_nil, Nat.reduceAdd, Nat.reduceLeDiff, Nat.zero_le, Nat.le_refl, List.getElem?_cons_zero, List.getElem?_cons_succ, beq_self_eq_true, Bool.false_eq_true, aundef, Nat.zero_add, Nat.add_zero, Bool.not_true, Bool.not_false, Bool.xor_false, Bool.false_xor, Bool.true_xor, Bool.xor_true, and_self, true_and, and_true, hx, ha, hld, abin]
      cases hb : p.1.toList == s.toList with
      | true =>
        refine DR.yes rfl ?_
        have ha2 := h.pds.addr H (k := .i64) (i := i) (by simpa using hlt)
        have hld2 := h.pds.load (i := i) (v := .int .i64 p.2) (by simp [hp])
        repeat' (first | refine DR.seq ?_ | refine DR.block ?_ | refine DR.skip ?_ | refine DR.inBlock ?_)
        refine DR.ops ?_
        simp only [r9_5, DO_nil, DO_cons, OR'_nil, OR'_cons, onW_t, onW_f, onN_v, onN_c, onN_a, onB_t, onB_f, wantedA, astep, Env.val, Env.vals, Env.put, Env.set, Env.get, envFrom, Env.keep, afaddr, aun, AVal.cells, Option.bind_eq_bind, Option.bind_some, Option.pure_def, Nat.reduceEqDiff, Nat.succ_ne_self, if_true, if_false, reduceIte, Option.map_some, List.drop_zero, List.drop_succ_cons, List.length_cons, List.length_nil, Nat.reduceAdd, Nat.reduceLeDiff, Nat.zero_le, Nat.le_refl, List.getElem?_cons_zero, List.getElem?_cons_succ, beq_self_eq_true, Bool.false_eq_true, aundef, Nat.zero_add, Nat.add_zero, Bool.not_true, Bool.not_false, Bool.xor_false, Bool.false_xor, Bool.true_xor, Bool.xor_true, and_self, true_and, and_true, hy, ha2, hld2]
        refine DR.ret ⟨_, by simp [aresult, ares, Env.get] <;> rfl, rfl, ?_⟩
        have : L.find? (fun p => p.1.toList == s.toList) = some p := by
          rw [List.find?_eq_some_iff_getElem]
          exact ⟨hb, i, hlt, by rw [List.getElem?_eq_getElem hlt] at hp; injection hp, fun j hj => by
            have hjl : j < L.length := by omega
            rw [hno j hj L[j] (List.getElem?_eq_getElem hjl)]; rfl⟩
        simp [whose, this]
      | false =>
        refine DR.no rfl ?_
        repeat' (first | refine DR.seq ?_ | refine DR.block ?_ | refine DR.skip ?_ | refine DR.inBlock ?_)
        refine DR.ops ?_
        have hw : IntKind.i64.wrap ((i : Int) + 1) = ((i + 1 : Nat) : Int) := by
          have := h.len
          exact wrap64 (n := i + 1) (by omega)
        simp only [r9_3, DO_nil, DO_cons, OR'_nil, OR'_cons, onW_t, onW_f, onN_v, onN_c, onN_a, onB_t, onB_f, wantedA, astep, Env.val, Env.vals, Env.put, Env.set, Env.get, envFrom, Env.keep, afaddr, aun, AVal.cells, Option.bind_eq_bind, Option.bind_some, Option.pure_def, Nat.reduceEqDiff, Nat.succ_ne_self, if_true, if_false, reduceIte, Option.map_some, List.drop_zero, List.drop_succ_cons, List.length_cons, List.length_nil, Nat.reduceAdd, Nat.reduceLeDiff, Nat.zero_le, Nat.le_refl, List.getElem?_cons_zero, List.getElem?_cons_succ, beq_self_eq_true, Bool.false_eq_true, aundef, Nat.zero_add, Nat.add_zero, Bool.not_true, Bool.not_false, Bool.xor_false, Bool.false_xor, Bool.true_xor, Bool.xor_true, and_self, true_and, and_true, abin, hw]
        repeat' (first | refine DR.seq ?_ | refine DR.block ?_ | refine DR.skip ?_ | refine DR.inBlock ?_)
        refine DR.inLoop ?_
        refine ih (i + 1) (by omega) fun j hj q hq => ?_
        rcases Nat.lt_or_ge j i with h1 | h1
        · exact hno j h1 q hq
        · obtain rfl : j = i := by omega
          rw [hp] at hq; cases hq; exact hb
  exact loop L.length 0 (by omega) (fun j hj => by omega)
end Go.Am.Rn
