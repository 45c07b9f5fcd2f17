import Derived.Test.YtakbdcikjpmmiaaW4
set_option linter.unusedVariables false
set_option linter.unusedSimpArgs false
namespace Go.Am.Rn
open Go.Proofs

def ofp (L : List (ByteArray × Int)) (q : Int) : AVal := match L.find? (fun p => p.2 == q) with
  | some p => .tup [.str p.1, .bool true]
  | none => .tup [.str ⟨#[]⟩, .bool false]

theorem g11 {H : AHeap} {r : Nat} {L : List (ByteArray × Int)} {e : TypeId} {x y : AVal} (h : RefAt H r L e x y) (s : Int) : DCall Try.prog 11 [.ptr r 0, .int .i64 s] H fun a H' => H' = H ∧ a = ofp L s := by
  refine DCall.of_body (fn := Try.f11) (by kernel_rfl) c11 (by kernel_rfl) (by simp [f11]) ?_
  have hx := load_cell h.blk (o := 0) (v := x) rfl
  have hy := load_cell h.blk (o := 1) (v := y) rfl
  have hl := h.nms.alenT (H' := H)
  rw [List.length_map] at hl
  unfold f11
  simp only []
  repeat' (first | refine DR.seq ?_ | refine DR.block ?_ | refine DR.skip ?_ | refine DR.inBlock ?_)
  refine DR.ops ?_
  simp only [r11_0, DO_nil, DO_cons, OR'_nil, OR'_cons, onW_t, onW_f, onN_v, onN_c, onN_a, onB_t, onB_f, wantedA, astep, Env.val, Env.vals, Env.put, Env.set, Env.get, envFrom, Env.keep, afaddr, aun, AVal.cells, Option.bind_eq_bind, Option.bind_some, Option.pure_def, Nat.reduceEqDiff, Nat.succ_ne_self, if_true, if_false, reduceIte, Option.map_some, List.drop_zero, List.drop_succ_cons, List.length_cons, List.length_nil, Nat.reduceAdd, Nat.reduceLeDiff, Nat.zero_le, Nat.le_refl, List.getElem?_cons_zero, List.getElem?_cons_succ, beq_self_eq_true, Bool.false_eq_true, aundef, Nat.zero_add, Nat.add_zero, Bool.not_true, Bool.not_false, Bool.xor_false, Bool.false_xor, Bool.true_xor, Bool.xor_true, and_self, true_and, and_true]
  repeat' (first | refine DR.seq ?_ | refine DR.block ?_ | refine DR.skip ?_ | refine DR.inBlock ?_)
  refine DR.ops ?_
  simp only [r11_1, DO_nil, DO_cons, OR'_nil, OR'_cons, onW_t, onW_f, onN_v, onN_c, onN_a, onB_t, onB_f, wantedA, astep, Env.val, Env.vals, Env.put, Env.set, Env.get, envFrom, Env.keep, afaddr, aun, AVal.cells, Option.bind_eq_bind, Option.bind_some, Option.pure_def, Nat.reduceEqDiff, Nat.succ_ne_self, if_true, if_false, reduceIte, Option.map_some, List.drop_zero, List.drop_succ_cons, List.length_cons, List.length_nil, Nat.reduceAdd, Nat.reduceLeDiff, Nat.zero_le, Nat.le_refl, List.getElem?_cons_zero, List.getElem?_cons_succ, beq_self_eq_true, Bool.false_eq_true, aundef, Nat.zero_add, Nat.add_zero, Bool.not_true, Bool.not_false, Bool.xor_false, Bool.false_xor, Bool.true_xor, Bool.xor_true, and_self, true_and, and_true]
  refine DR.block ?_
  refine DR.loop ?_
  have loop : ∀ (d i : Nat), i + d = L.length → (∀ j, j < i → ∀ p, L[j]? = some p → (p.2 == s) = false) → DR Try.prog (kof k11) 32 [.code l11_0, .inLoop l11_0, .inBlock 0, .code ((ACode.region false r11_6 [4, 5]).seq .ret)] [(0, .ptr r 0), (1, .int .i64 s), (6, .int .i64 i)] H fun T' H' => ∃ a, aresult H' T' [ARes.tmp 4, ARes.tmp 5] = some a ∧ H' = H ∧ a = ofp L s := by
    intro d
    induction d with
    | zero =>
      intro i hi hno
      obtain rfl : i = L.length := by omega
      repeat' (first | refine DR.seq ?_ | refine DR.block ?_ | refine DR.skip ?_ | refine DR.inBlock ?_)
      refine DR.ops ?_
      simp only [r11_2, DO_nil, DO_cons, OR'_nil, OR'_cons, onW_t, onW_f, onN_v, onN_c, onN_a, onB_t, onB_f, wantedA, astep, Env.val, Env.vals, Env.put, Env.set, Env.get, envFrom, Env.keep, afaddr, aun, AVal.cells, Option.bind_eq_bind, Option.bind_some, Option.pure_def, Nat.reduceEqDiff, Nat.succ_ne_self, if_true, if_false, reduceIte, Option.map_some, List.drop_zero, List.drop_succ_cons, List.length_cons, List.length_nil, Nat.reduceAdd, Nat.reduceLeDiff, Nat.zero_le, Nat.le_refl, List.getElem?_cons_zero, List.getElem?_cons_succ, beq_self_eq_true, Bool.false_eq_true, aundef, Nat.zero_add, Nat.add_zero, Bool.not_true, Bool.not_false, Bool.xor_false, Bool.false_xor, Bool.true_xor, Bool.xor_true, and_self, true_and, and_true, hx, hl, abin, Int.lt_irrefl, decide_false]
      refine DR.no rfl ?_
      refine DR.exit rfl ?_
      repeat' (first | refine DR.seq ?_ | refine DR.block ?_ | refine DR.skip ?_ | refine DR.inBlock ?_)
      refine DR.ops ?_
      simp only [r11_6, DO_nil, DO_cons, OR'_nil, OR'_cons, onW_t, onW_f, onN_v, onN_c, onN_a, onB_t, onB_f, wantedA, astep, Env.val, Env.vals, Env.put, Env.set, Env.get, envFrom, Env.keep, afaddr, aun, AVal.cells, Option.bind_eq_bind, Option.bind_some, Option.pure_def, Nat.reduceEqDiff, Nat.succ_ne_self, if_true, if_false, reduceIte, Option.map_some, List.drop_zero, List.drop_succ_cons, List.length_cons, List.length_nil, Nat.reduceAdd, Nat.reduceLeDiff, Nat.zero_le, Nat.le_refl, List.getElem?_cons_zero, List.getElem?_cons_succ, beq_self_eq_true, Bool.false_eq_true, aundef, Nat.zero_add, Nat.add_zero, Bool.not_true, Bool.not_false, Bool.xor_false, Bool.false_xor, Bool.true_xor, Bool.xor_true, and_self, true_and, and_true]
      refine DR.ret ⟨_, by simp [aresult, ares, Env.get] <;> rfl, rfl, ?_⟩
      have : L.find? (fun p => p.2 == s) = none := by
        rw [List.find?_eq_none]
        intro p hp
        obtain ⟨j, hj⟩ := List.mem_iff_getElem?.mp hp
        have := hno j (List.getElem?_eq_some_iff.mp hj).1 p hj
        rw [this]; simp
      simp [ofp, this]
    | succ d ih =>
      intro i hi hno
      have hlt : i < L.length := by omega
      obtain ⟨p, hp⟩ : ∃ p, L[i]? = some p := ⟨_, List.getElem?_eq_getElem hlt⟩
      have ha := h.nms.addr H (k := .i64) (i := i) (by simpa using hlt)
      have hld := h.nms.load (i := i) (v := .str p.1) (by simp [hp])
      have ha2 := h.pds.addr H (k := .i64) (i := i) (by simpa using hlt)
      have hld2 := h.pds.load (i := i) (v := .int .i64 p.2) (by simp [hp])
      repeat' (first | refine DR.seq ?_ | refine DR.block ?_ | refine DR.skip ?_ | refine DR.inBlock ?_)
      refine DR.ops ?_
      have hcmp : decide ((i : Int) < (L.length : Int)) = true := by simp; omega
      simp only [r11_2, DO_nil, DO_cons, OR'_nil, OR'_cons, onW_t, onW_f, onN_v, onN_c, onN_a, onB_t, onB_f, wantedA, astep, Env.val, Env.vals, Env.put, Env.set, Env.get, envFrom, Env.keep, afaddr, aun, AVal.cells, Option.bind_eq_bind, Option.bind_some, Option.pure_def, Nat.reduceEqDiff, Nat.succ_ne_self, if_true, if_false, reduceIte, Option.map_some, List.drop_zero, List.drop_succ_cons, List.length_cons, List.length_nil, Nat.reduceAdd, Nat.reduceLeDiff, Nat.zero_le, Nat.le_refl, List.getElem?_cons_zero, List.getElem?_cons_succ, beq_self_eq_true, Bool.false_eq_true, aundef, Nat.zero_add, Nat.add_zero, Bool.not_true, Bool.not_false, Bool.xor_false, Bool.false_xor, Bool.true_xor, Bool.xor_true, and_self, true_and, and_true, hx, hl, abin, hcmp]
      refine DR.yes rfl ?_
      repeat' (first | refine DR.seq ?_ | refine DR.block ?_ | refine DR.skip ?_ | refine DR.inBlock ?_)
      refine DR.ops ?_
      simp only [r11_4, DO_nil, DO_cons, OR'_nil, OR'_cons, onW_t, onW_f, onN_v, onN_c, onN_a, onB_t, onB_f, wantedA, astep, Env.val, Env.vals, Env.put, Env.set, Env.get, envFrom, Env.keep, afaddr, aun, AVal.cells, Option.bind_eq_bind, Option.bind_some, Option.pure_def, Nat.reduceEqDiff, Nat.succ_ne_self, if_true, if_false, reduceIte, Option.map_some, List.drop_zero, List.drop_succ_cons, List.length_cons, List.length_nil, Nat.reduceAdd, Nat.reduceLeDiff, Nat.zero_le, Nat.le_refl, List.getElem?_cons_zero, List.getElem?_cons_succ, beq_self_eq_true, Bool.false_eq_true, aundef, Nat.zero_add, Nat.add_zero, Bool.not_true, Bool.not_false, Bool.xor_false, Bool.false_xor, Bool.true_xor, Bool.xor_true, and_self, true_and, and_true, hy, ha2, hld2, abin]
      cases hb : p.2 == s with
      | true =>
        refine DR.yes rfl ?_
        repeat' (first | refine DR.seq ?_ | refine DR.block ?_ | refine DR.skip ?_ | refine DR.inBlock ?_)
        refine DR.ops ?_
        simp only [r11_5, DO_nil, DO_cons, OR'_nil, OR'_cons, onW_t, onW_f, onN_v, onN_c, onN_a, onB_t, onB_f, wantedA, astep, Env.val, Env.vals, Env.put, Env.set, Env.get, envFrom, Env.keep, afaddr, aun, AVal.cells, Option.bind_eq_bind, Option.bind_some, Option.pure_def, Nat.reduceEqDiff, Nat.succ_ne_self, if_true, if_false, reduceIte, Option.map_some, List.drop_zero, List.drop_succ_cons, List.length_cons, List.length_nil, Nat.reduceAdd, Nat.reduceLeDiff, Nat.zero_le, Nat.le_refl, List.getElem?_cons_zero, List.getElem?_cons_succ, beq_self_eq_true, Bool.false_eq_true, aundef, Nat.zero_add, Nat.add_zero, Bool.not_true, Bool.not_false, Bool.xor_false, Bool.false_xor, Bool.true_xor, Bool.xor_true, and_self, true_and, and_true, hx, ha, hld]
        refine DR.ret ⟨_, by simp [aresult, ares, Env.get] <;> rfl, rfl, ?_⟩
        have : L.find? (fun p => p.2 == s) = some p := by
          rw [List.find?_eq_some_iff_getElem]
          exact ⟨hb, i, hlt, by rw [List.getElem?_eq_getElem hlt] at hp; injection hp, fun j hj => by
            have hjl : j < L.length := by omega
            rw [hno j hj L[j] (List.getElem?_eq_getElem hjl)]; rfl⟩
        simp [ofp, this]
      | false =>
        refine DR.no rfl ?_
        repeat' (first | refine DR.seq ?_ | refine DR.block ?_ | refine DR.skip ?_ | refine DR.inBlock ?_)
        refine DR.ops ?_
        have hw : IntKind.i64.wrap ((i : Int) + 1) = ((i + 1 : Nat) : Int) := by
          have := h.len
          exact wrap64 (n := i + 1) (by omega)
        simp only [r11_3, DO_nil, DO_cons, OR'_nil, OR'_cons, onW_t, onW_f, onN_v, onN_c, onN_a, onB_t, onB_f, wantedA, astep, Env.val, Env.vals, Env.put, Env.set, Env.get, envFrom, Env.keep, afaddr, aun, AVal.cells, Option.bind_eq_bind, Option.bind_some, Option.pure_def, Nat.reduceEqDiff, Nat.succ_ne_self, if_true, if_false, reduceIte, Option.map_some, List.drop_zero, List.drop_succ_cons, List.length_cons, List.length_nil, Nat.reduceAdd, Nat.reduceLeDiff, Nat.zero_le, Nat.le_refl, List.getElem?_cons_zero, List.getElem?_cons_succ, beq_self_eq_true, Bool.false_eq_true, aundef, Nat.zero_add, Nat.add_zero, Bool.not_true, Bool.not_false, Bool.xor_false, Bool.false_xor, Bool.true_xor, Bool.xor_true, and_self, true_and, and_true, abin, hw]
        repeat' (first | refine DR.seq ?_ | refine DR.block ?_ | refine DR.skip ?_ | refine DR.inBlock ?_)
        refine DR.inLoop ?_
        refine ih (i + 1) (by omega) fun j hj q hq => ?_
        rcases Nat.lt_or_ge j i with h1 | h1
        · exact hno j h1 q hq
        · obtain rfl : j = i := by omega
          rw [hp] at hq; cases hq; exact hb
  exact loop L.length 0 (by omega) (fun j hj => by omega)
end Go.Am.Rn
