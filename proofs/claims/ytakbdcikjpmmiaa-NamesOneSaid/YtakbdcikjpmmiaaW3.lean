import Derived.Test.YtakbdcikjpmmiaaW2
set_option linter.unusedVariables false
set_option linter.unusedSimpArgs false
namespace Go.Am.Rn
open Go.Proofs

def undefd : ByteArray := ⟨#[117, 110, 100, 101, 102, 105, 110, 101, 100]⟩
def badName (s : ByteArray) : Bool := s.toList == (⟨#[]⟩ : ByteArray).toList || decide ((s.size : Int) > 64) || s.toList == undefd.toList

theorem setBorn_last {b : Nat} {x z : AVal} {k : AVal} : ∀ (l : List AEntry), (∀ e ∈ l, e.born < b) → setBorn (b : Int) x (l ++ [⟨k, z, b⟩]) = some (l ++ [⟨k, x, b⟩])
  | [], _ => by simp [setBorn]
  | e :: r, h => by
    have h1 := h e List.mem_cons_self
    have ih := setBorn_last (x := x) (z := z) (k := k) r fun y hy => h y (List.mem_cons_of_mem _ hy)
    have hne : ((e.born : Int) == (b : Int)) = false := by simp; omega
    simp only [List.cons_append, setBorn, hne, Bool.false_eq_true, if_false, ih, Option.map_some]

theorem key13 (n : Nat) (s : ByteArray) (p : Int) (H : AHeap) (b8 b10 : Bool) (K : Env → AHeap → Prop) (hK : K [(0, .ptr n 0), (1, .str s), (2, .int .i64 p), (49, .bool (badName s || b8 || b10 || decide (p < 1)))] H) :
    DO Try.prog r13_3 [(0, .ptr n 0), (1, .str s), (2, .int .i64 p), (8, .bool b8), (10, .bool b10)] H (fun T' H' => K (T'.keep [0, 1, 2, 49]) H') .mk := by
  simp only [badName] at hK
  cases h1 : s.toList == (⟨#[]⟩ : ByteArray).toList with
  | true => simp only [h1, Bool.true_or] at hK; simpa only [r13_3, DO_nil, DO_cons, OR'_nil, OR'_cons, onW_t, onW_f, onN_v, onN_c, onN_a, onB_t, onB_f, wantedA, astep, Env.val, Env.vals, Env.put, Env.set, Env.get, envFrom, Env.keep, afaddr, aun, AVal.cells, Option.bind_eq_bind, Option.bind_some, Option.pure_def, Nat.reduceEqDiff, Nat.succ_ne_self, if_true, if_false, reduceIte, Option.map_some, List.drop_zero, List.drop_succ_cons, List.length_cons, List.length_nil, Nat.reduceAdd, Nat.reduceLeDiff, Nat.zero_le, Nat.le_refl, List.getElem?_cons_zero, List.getElem?_cons_succ, beq_self_eq_true, Bool.false_eq_true, aundef, Nat.zero_add, Nat.add_zero, Bool.not_true, Bool.not_false, Bool.xor_false, Bool.false_xor, Bool.true_xor, Bool.xor_true, and_self, true_and, and_true, abin, alenT, h1, Bool.true_beq, Bool.false_beq] using hK
  | false =>
    cases h2 : decide ((s.size : Int) > 64) with
    | true => simp only [h1, h2, Bool.true_or, Bool.false_or] at hK; simpa only [r13_3, DO_nil, DO_cons, OR'_nil, OR'_cons, onW_t, onW_f, onN_v, onN_c, onN_a, onB_t, onB_f, wantedA, astep, Env.val, Env.vals, Env.put, Env.set, Env.get, envFrom, Env.keep, afaddr, aun, AVal.cells, Option.bind_eq_bind, Option.bind_some, Option.pure_def, Nat.reduceEqDiff, Nat.succ_ne_self, if_true, if_false, reduceIte, Option.map_some, List.drop_zero, List.drop_succ_cons, List.length_cons, List.length_nil, Nat.reduceAdd, Nat.reduceLeDiff, Nat.zero_le, Nat.le_refl, List.getElem?_cons_zero, List.getElem?_cons_succ, beq_self_eq_true, Bool.false_eq_true, aundef, Nat.zero_add, Nat.add_zero, Bool.not_true, Bool.not_false, Bool.xor_false, Bool.false_xor, Bool.true_xor, Bool.xor_true, and_self, true_and, and_true, abin, alenT, h1, h2, Bool.true_beq, Bool.false_beq] using hK
    | false =>
      cases h3 : s.toList == undefd.toList with
      | true => simp only [h1, h2, h3, Bool.true_or, Bool.false_or] at hK; unfold undefd at h3; simpa only [r13_3, DO_nil, DO_cons, OR'_nil, OR'_cons, onW_t, onW_f, onN_v, onN_c, onN_a, onB_t, onB_f, wantedA, astep, Env.val, Env.vals, Env.put, Env.set, Env.get, envFrom, Env.keep, afaddr, aun, AVal.cells, Option.bind_eq_bind, Option.bind_some, Option.pure_def, Nat.reduceEqDiff, Nat.succ_ne_self, if_true, if_false, reduceIte, Option.map_some, List.drop_zero, List.drop_succ_cons, List.length_cons, List.length_nil, Nat.reduceAdd, Nat.reduceLeDiff, Nat.zero_le, Nat.le_refl, List.getElem?_cons_zero, List.getElem?_cons_succ, beq_self_eq_true, Bool.false_eq_true, aundef, Nat.zero_add, Nat.add_zero, Bool.not_true, Bool.not_false, Bool.xor_false, Bool.false_xor, Bool.true_xor, Bool.xor_true, and_self, true_and, and_true, abin, alenT, h1, h2, h3, Bool.true_beq, Bool.false_beq] using hK
      | false =>
        simp only [h1, h2, h3, Bool.true_or, Bool.false_or] at hK
        unfold undefd at h3
        cases b8 with
        | true => simp only [Bool.true_or, Bool.false_or] at hK; simpa only [r13_3, DO_nil, DO_cons, OR'_nil, OR'_cons, onW_t, onW_f, onN_v, onN_c, onN_a, onB_t, onB_f, wantedA, astep, Env.val, Env.vals, Env.put, Env.set, Env.get, envFrom, Env.keep, afaddr, aun, AVal.cells, Option.bind_eq_bind, Option.bind_some, Option.pure_def, Nat.reduceEqDiff, Nat.succ_ne_self, if_true, if_false, reduceIte, Option.map_some, List.drop_zero, List.drop_succ_cons, List.length_cons, List.length_nil, Nat.reduceAdd, Nat.reduceLeDiff, Nat.zero_le, Nat.le_refl, List.getElem?_cons_zero, List.getElem?_cons_succ, beq_self_eq_true, Bool.false_eq_true, aundef, Nat.zero_add, Nat.add_zero, Bool.not_true, Bool.not_false, Bool.xor_false, Bool.false_xor, Bool.true_xor, Bool.xor_true, and_self, true_and, and_true, abin, alenT, h1, h2, h3, Bool.true_beq, Bool.false_beq] using hK
        | false =>
          cases b10 with
          | true => simp only [Bool.true_or, Bool.false_or] at hK; simpa only [r13_3, DO_nil, DO_cons, OR'_nil, OR'_cons, onW_t, onW_f, onN_v, onN_c, onN_a, onB_t, onB_f, wantedA, astep, Env.val, Env.vals, Env.put, Env.set, Env.get, envFrom, Env.keep, afaddr, aun, AVal.cells, Option.bind_eq_bind, Option.bind_some, Option.pure_def, Nat.reduceEqDiff, Nat.succ_ne_self, if_true, if_false, reduceIte, Option.map_some, List.drop_zero, List.drop_succ_cons, List.length_cons, List.length_nil, Nat.reduceAdd, Nat.reduceLeDiff, Nat.zero_le, Nat.le_refl, List.getElem?_cons_zero, List.getElem?_cons_succ, beq_self_eq_true, Bool.false_eq_true, aundef, Nat.zero_add, Nat.add_zero, Bool.not_true, Bool.not_false, Bool.xor_false, Bool.false_xor, Bool.true_xor, Bool.xor_true, and_self, true_and, and_true, abin, alenT, h1, h2, h3, Bool.true_beq, Bool.false_beq] using hK
          | false => simp only [Bool.true_or, Bool.false_or] at hK; simpa only [r13_3, DO_nil, DO_cons, OR'_nil, OR'_cons, onW_t, onW_f, onN_v, onN_c, onN_a, onB_t, onB_f, wantedA, astep, Env.val, Env.vals, Env.put, Env.set, Env.get, envFrom, Env.keep, afaddr, aun, AVal.cells, Option.bind_eq_bind, Option.bind_some, Option.pure_def, Nat.reduceEqDiff, Nat.succ_ne_self, if_true, if_false, reduceIte, Option.map_some, List.drop_zero, List.drop_succ_cons, List.length_cons, List.length_nil, Nat.reduceAdd, Nat.reduceLeDiff, Nat.zero_le, Nat.le_refl, List.getElem?_cons_zero, List.getElem?_cons_succ, beq_self_eq_true, Bool.false_eq_true, aundef, Nat.zero_add, Nat.add_zero, Bool.not_true, Bool.not_false, Bool.xor_false, Bool.false_xor, Bool.true_xor, Bool.xor_true, and_self, true_and, and_true, abin, alenT, h1, h2, h3, Bool.true_beq, Bool.false_beq] using hK

theorem g13 {H : AHeap} {n : Nat} {A : List Rec} {e : TypeId} {m1 m2 c1 c2 : Nat} (h : NamAt H n A e m1 m2 c1 c2) (s : ByteArray) (p : Int) :
    DCall Try.prog 13 [.ptr n 0, .str s, .int .i64 p] H fun a H' => Only H H' m1 m2 ∧
      if (badName s || (look1 s A 0).isSome || (look2 p A 0).isSome || decide (p < 1)) = true then a = .int .i64 13 ∧ NamAt H' n A e m1 m2 c1 c2
      else a = .int .i64 0 ∧ NamAt H' n (A ++ [⟨s, p, c1, c2⟩]) e m1 m2 (c1 + 1) (c2 + 1) := by
  refine DCall.of_body (fn := Try.f13) (by kernel_rfl) c13 (by kernel_rfl) (by simp [f13]) ?_
  have hx := load_cell h.blk (o := 0) (v := .map m1) rfl
  have hy := load_cell h.blk (o := 1) (v := .map m2) rfl
  have hlk1 := lookup1 h s
  have hlk2 := lookup2 h p
  have f1 : ∃ v, nwhose A s = .tup [v, .bool (look1 s A 0).isSome] := by unfold nwhose; split <;> simp_all
  have f2 : ∃ v, nof A p = .tup [v, .bool (look2 p A 0).isSome] := by unfold nof; split <;> simp_all
  obtain ⟨v1, f1⟩ := f1
  obtain ⟨v2, f2⟩ := f2
  rw [f1] at hlk1
  rw [f2] at hlk2
  unfold f13
  simp only []
  repeat' (first | refine DR.seq ?_ | refine DR.block ?_ | refine DR.skip ?_ | refine DR.inBlock ?_)
  refine DR.ops ?_
  simp only [r13_0, DO_nil, DO_cons, OR'_nil, OR'_cons, onW_t, onW_f, onN_v, onN_c, onN_a, onB_t, onB_f, wantedA, astep, Env.val, Env.vals, Env.put, Env.set, Env.get, envFrom, Env.keep, afaddr, aun, AVal.cells, Option.bind_eq_bind, Option.bind_some, Option.pure_def, Nat.reduceEqDiff, Nat.succ_ne_self, if_true, if_false, reduceIte, Option.map_some, List.drop_zero, List.drop_succ_cons, List.length_cons, List.length_nil, Nat.reduceAdd, Nat.reduceLeDiff, Nat.zero_le, Nat.le_refl, List.getElem?_cons_zero, List.getElem?_cons_succ, beq_self_eq_true, Bool.false_eq_true, aundef, Nat.zero_add, Nat.add_zero, Bool.not_true, Bool.not_false, Bool.xor_false, Bool.false_xor, Bool.true_xor, Bool.xor_true, and_self, true_and, and_true]
  repeat' (first | refine DR.seq ?_ | refine DR.block ?_ | refine DR.skip ?_ | refine DR.inBlock ?_)
  refine DR.ops ?_
  simp only [r13_1, DO_nil, DO_cons, OR'_nil, OR'_cons, onW_t, onW_f, onN_v, onN_c, onN_a, onB_t, onB_f, wantedA, astep, Env.val, Env.vals, Env.put, Env.set, Env.get, envFrom, Env.keep, afaddr, aun, AVal.cells, Option.bind_eq_bind, Option.bind_some, Option.pure_def, Nat.reduceEqDiff, Nat.succ_ne_self, if_true, if_false, reduceIte, Option.map_some, List.drop_zero, List.drop_succ_cons, List.length_cons, List.length_nil, Nat.reduceAdd, Nat.reduceLeDiff, Nat.zero_le, Nat.le_refl, List.getElem?_cons_zero, List.getElem?_cons_succ, beq_self_eq_true, Bool.false_eq_true, aundef, Nat.zero_add, Nat.add_zero, Bool.not_true, Bool.not_false, Bool.xor_false, Bool.false_xor, Bool.true_xor, Bool.xor_true, and_self, true_and, and_true, hx, hlk1]
  repeat' (first | refine DR.seq ?_ | refine DR.block ?_ | refine DR.skip ?_ | refine DR.inBlock ?_)
  refine DR.ops ?_
  simp only [r13_2, DO_nil, DO_cons, OR'_nil, OR'_cons, onW_t, onW_f, onN_v, onN_c, onN_a, onB_t, onB_f, wantedA, astep, Env.val, Env.vals, Env.put, Env.set, Env.get, envFrom, Env.keep, afaddr, aun, AVal.cells, Option.bind_eq_bind, Option.bind_some, Option.pure_def, Nat.reduceEqDiff, Nat.succ_ne_self, if_true, if_false, reduceIte, Option.map_some, List.drop_zero, List.drop_succ_cons, List.length_cons, List.length_nil, Nat.reduceAdd, Nat.reduceLeDiff, Nat.zero_le, Nat.le_refl, List.getElem?_cons_zero, List.getElem?_cons_succ, beq_self_eq_true, Bool.false_eq_true, aundef, Nat.zero_add, Nat.add_zero, Bool.not_true, Bool.not_false, Bool.xor_false, Bool.false_xor, Bool.true_xor, Bool.xor_true, and_self, true_and, and_true, hy, hlk2]
  repeat' (first | refine DR.seq ?_ | refine DR.block ?_ | refine DR.skip ?_ | refine DR.inBlock ?_)
  refine DR.ops (key13 _ _ _ _ _ _ (fun T' H' => At _ _ _ _ T' H' _ .mk .mk) ?_)
  generalize hbad : (badName s || (look1 s A 0).isSome || (look2 p A 0).isSome || decide (p < 1)) = bad
  cases bad with
  | true =>
    refine DR.yes rfl ?_
    repeat' (first | refine DR.seq ?_ | refine DR.block ?_ | refine DR.skip ?_ | refine DR.inBlock ?_)
    refine DR.ops ?_
    simp only [r13_4, DO_nil, DO_cons, OR'_nil, OR'_cons, onW_t, onW_f, onN_v, onN_c, onN_a, onB_t, onB_f, wantedA, astep, Env.val, Env.vals, Env.put, Env.set, Env.get, envFrom, Env.keep, afaddr, aun, AVal.cells, Option.bind_eq_bind, Option.bind_some, Option.pure_def, Nat.reduceEqDiff, Nat.succ_ne_self, if_true, if_false, reduceIte, Option.map_some, List.drop_zero, List.drop_succ_cons, List.length_cons, List.length_nil, Nat.reduceAdd, Nat.reduceLeDiff, Nat.zero_le, Nat.le_refl, List.getElem?_cons_zero, List.getElem?_cons_succ, beq_self_eq_true, Bool.false_eq_true, aundef, Nat.zero_add, Nat.add_zero, Bool.not_true, Bool.not_false, Bool.xor_false, Bool.false_xor, Bool.true_xor, Bool.xor_true, and_self, true_and, and_true]
    exact DR.ret ⟨_, by simp [aresult, ares, Env.get] <;> rfl, ⟨rfl, fun _ _ _ => rfl⟩, by simp only [if_true]; exact ⟨trivial, h⟩⟩
  | false =>
    simp only [Bool.or_eq_false_iff] at hbad
    obtain ⟨⟨⟨hb1, hb2⟩, hb3⟩, hb4⟩ := hbad
    have lt1 := AHeap.get_lt h.mp1
    have lt2 := AHeap.get_lt h.mp2
    have hn1 : n ≠ m1 := fun e' => by have := h.blk; rw [e', h.mp1] at this; cases this
    have hn2 : n ≠ m2 := fun e' => by have := h.blk; rw [e', h.mp2] at this; cases this
    have hl1 : look1 s A 0 = none := by cases hh : look1 s A 0 with
      | none => rfl
      | some _ => rw [hh] at hb2; cases hb2
    have hl2 : look2 p A 0 = none := by cases hh : look2 p A 0 with
      | none => rfl
      | some _ => rw [hh] at hb3; cases hb3
    obtain ⟨H1, hH1⟩ : ∃ H1, H1 = H.set m1 (.map (A.map ent1 ++ [⟨.str s, .int .i64 0, c1⟩]) (c1 + 1)) := ⟨_, rfl⟩
    have e1 : amapent H 0 (.int .i64 0) (.map m1) (.str s) = some (.tup [.int .i64 0, .int .i64 c1], H1) := by
      have hk : keyOk 0 (.str s) = true := rfl
      simp [amapent, hk, h.mp1, findE_1, hl1, hH1]
    have g1 : H1.get m1 = some (.map (A.map ent1 ++ [⟨.str s, .int .i64 0, c1⟩]) (c1 + 1)) := by rw [hH1, AHeap.get_set, if_pos rfl, if_pos lt1]
    obtain ⟨H2, hH2⟩ : ∃ H2, H2 = H1.set m1 (.map (A.map ent1 ++ [⟨.str s, .int .i64 p, c1⟩]) (c1 + 1)) := ⟨_, rfl⟩
    have e2 : aentst H1 (.map m1) (.int .i64 c1) (.int .i64 p) = some H2 := by
      simp only [aentst, g1]
      rw [setBorn_last (A.map ent1) (fun x hx => by
        obtain ⟨a, ha, rfl⟩ := List.mem_map.mp hx
        exact (h.old a ha).1)]
      simp [hH2]
    have n1 : H1.next = H.next := by rw [hH1]; rfl
    have n2 : H2.next = H.next := by rw [hH2]; exact n1
    have g2 : H2.get m2 = some (.map (A.map ent2) c2) := by rw [hH2, AHeap.get_set, if_neg (Ne.symm h.ne), hH1, AHeap.get_set, if_neg (Ne.symm h.ne)]; exact h.mp2
    obtain ⟨H3, hH3⟩ : ∃ H3, H3 = H2.set m2 (.map (A.map ent2 ++ [⟨.int .i64 p, .str ⟨#[]⟩, c2⟩]) (c2 + 1)) := ⟨_, rfl⟩
    have e3 : amapent H2 1 (.str ⟨#[]⟩) (.map m2) (.int .i64 p) = some (.tup [.str ⟨#[]⟩, .int .i64 c2], H3) := by
      have hk : keyOk 1 (.int .i64 p) = true := rfl
      simp [amapent, hk, g2, findE_2, hl2, hH3]
    have g3 : H3.get m2 = some (.map (A.map ent2 ++ [⟨.int .i64 p, .str ⟨#[]⟩, c2⟩]) (c2 + 1)) := by rw [hH3, AHeap.get_set, if_pos rfl, if_pos (by rw [n2]; exact lt2)]
    obtain ⟨H4, hH4⟩ : ∃ H4, H4 = H3.set m2 (.map (A.map ent2 ++ [⟨.int .i64 p, .str s, c2⟩]) (c2 + 1)) := ⟨_, rfl⟩
    have e4 : aentst H3 (.map m2) (.int .i64 c2) (.str s) = some H4 := by
      simp only [aentst, g3]
      rw [setBorn_last (A.map ent2) (fun x hx => by
        obtain ⟨a, ha, rfl⟩ := List.mem_map.mp hx
        exact (h.old a ha).2)]
      simp [hH4]
    have n3 : H3.next = H.next := by rw [hH3]; exact n2
    have n4 : H4.next = H.next := by rw [hH4]; exact n3
    refine DR.no rfl ?_
    repeat' (first | refine DR.seq ?_ | refine DR.block ?_ | refine DR.skip ?_ | refine DR.inBlock ?_)
    refine DR.draw (by kernel_rfl) d13_5 ?_
    simp only [r13_5, m13_5, DO_nil, DO_cons, OR'_nil, OR'_cons, onW_t, onW_f, onN_v, onN_c, onN_a, onB_t, onB_f, wantedA, astep, Env.val, Env.vals, Env.put, Env.set, Env.get, envFrom, Env.keep, afaddr, aun, AVal.cells, Option.bind_eq_bind, Option.bind_some, Option.pure_def, Nat.reduceEqDiff, Nat.succ_ne_self, if_true, if_false, reduceIte, Option.map_some, List.drop_zero, List.drop_succ_cons, List.length_cons, List.length_nil, Nat.reduceAdd, Nat.reduceLeDiff, Nat.zero_le, Nat.le_refl, List.getElem?_cons_zero, List.getElem?_cons_succ, beq_self_eq_true, Bool.false_eq_true, aundef, Nat.zero_add, Nat.add_zero, Bool.not_true, Bool.not_false, Bool.xor_false, Bool.false_xor, Bool.true_xor, Bool.xor_true, and_self, true_and, and_true, DS_nil, DS_cons, seesAll, staysAll, abit, List.getD_cons_zero, List.getD_cons_succ, AOp.quiet, AOp.reads, true_and, and_true, Nat.reducePow, Nat.reduceDiv, Nat.reduceMod, decide_true, decide_false, Nat.reduceEqDiff, reduceCtorEq, and_self, Nat.reduceBEq, hx, hy, e1, e2, e3, e4]
    repeat' (first | refine DR.seq ?_ | refine DR.block ?_ | refine DR.skip ?_ | refine DR.inBlock ?_)
    refine DR.ops ?_
    simp only [r13_6, DO_nil, DO_cons, OR'_nil, OR'_cons, onW_t, onW_f, onN_v, onN_c, onN_a, onB_t, onB_f, wantedA, astep, Env.val, Env.vals, Env.put, Env.set, Env.get, envFrom, Env.keep, afaddr, aun, AVal.cells, Option.bind_eq_bind, Option.bind_some, Option.pure_def, Nat.reduceEqDiff, Nat.succ_ne_self, if_true, if_false, reduceIte, Option.map_some, List.drop_zero, List.drop_succ_cons, List.length_cons, List.length_nil, Nat.reduceAdd, Nat.reduceLeDiff, Nat.zero_le, Nat.le_refl, List.getElem?_cons_zero, List.getElem?_cons_succ, beq_self_eq_true, Bool.false_eq_true, aundef, Nat.zero_add, Nat.add_zero, Bool.not_true, Bool.not_false, Bool.xor_false, Bool.false_xor, Bool.true_xor, Bool.xor_true, and_self, true_and, and_true]
    refine DR.ret ⟨_, by simp [aresult, ares, Env.get] <;> rfl, ⟨n4, fun i i1 i2 => by rw [hH4, AHeap.get_set, if_neg i2, hH3, AHeap.get_set, if_neg i2, hH2, AHeap.get_set, if_neg i1, hH1, AHeap.get_set, if_neg i1]⟩, ?_⟩
    simp only [Bool.false_eq_true, if_false]
    refine ⟨trivial, ?_, ?_, ?_, h.ne, fun x hx => ?_, ?_⟩
    · rw [hH4, AHeap.get_set, if_neg hn2, hH3, AHeap.get_set, if_neg hn2, hH2, AHeap.get_set, if_neg hn1, hH1, AHeap.get_set, if_neg hn1]; exact h.blk
    · rw [hH4, AHeap.get_set, if_neg h.ne, hH3, AHeap.get_set, if_neg h.ne, hH2, AHeap.get_set, if_pos rfl, if_pos (by rw [n1]; exact lt1)]
      simp [ent1]
    · rw [hH4, AHeap.get_set, if_pos rfl, if_pos (by rw [n3]; exact lt2)]
      simp [ent2]
    · rcases List.mem_append.mp hx with hx | hx
      · have := h.old x hx; omega
      · rw [List.mem_singleton] at hx; subst hx; exact ⟨Nat.lt_succ_self _, Nat.lt_succ_self _⟩
    · rw [List.map_append, List.nodup_append]
      refine ⟨h.uniq, by simp, fun x hx y hy => ?_⟩
      obtain ⟨a, ha, rfl⟩ := List.mem_map.mp hx
      simp at hy; subst hy
      have := (h.old a ha).1
      omega
end Go.Am.Rn
