import Derived.Test.YtakbdcikjpmmiaaW6
import Derived.Test.YtakbdcikjpmmiaaAm28
set_option linter.unusedVariables false
set_option linter.unusedSimpArgs false
namespace Go.Am.Rn
open Go.Proofs

theorem key15 (n : Nat) (s : ByteArray) (p : Int) (H : AHeap) (b8 b10 : Bool) (K : Env → AHeap → Prop) (hK : K [(0, .ptr n 0), (1, .str s), (2, .int .i64 p), (46, .bool (badName s || b8 || decide (p < 1) || b10))] H) :
    DO Try.prog r15_3 [(0, .ptr n 0), (1, .str s), (2, .int .i64 p), (8, .bool b8), (10, .bool b10)] H (fun T' H' => K (T'.keep [0, 1, 2, 46]) H') .mk := by
  simp only [badName] at hK
  cases h1 : s.toList == (⟨#[]⟩ : ByteArray).toList with
  | true => simp only [h1, Bool.true_or] at hK; simpa only [r15_3, DO_nil, DO_cons, OR'_nil, OR'_cons, onW_t, onW_f, onN_v, onN_c, onN_a, onB_t, onB_f, wantedA, astep, Env.val, Env.vals, Env.put, Env.set, Env.get, envFrom, Env.keep, afaddr, aun, AVal.cells, Option.bind_eq_bind, Option.bind_some, Option.pure_def, Nat.reduceEqDiff, Nat.succ_ne_self, if_true, if_false, reduceIte, Option.map_some, List.drop_zero, List.drop_succ_cons, List.length_cons, List.length_nil, Nat.reduceAdd, Nat.reduceLeDiff, Nat.zero_le, Nat.le_refl, List.getElem?_cons_zero, List.getElem?_cons_succ, beq_self_eq_true, Bool.false_eq_true, aundef, Nat.zero_add, Nat.add_zero, Bool.not_true, Bool.not_false, Bool.xor_false, Bool.false_xor, Bool.true_xor, Bool.xor_true, and_self, true_and, and_true, abin, alenT, h1, Bool.true_beq, Bool.false_beq] using hK
  | false =>
    cases h2 : decide ((s.size : Int) > 64) with
    | true => simp only [h1, h2, Bool.true_or, Bool.false_or] at hK; simpa only [r15_3, DO_nil, DO_cons, OR'_nil, OR'_cons, onW_t, onW_f, onN_v, onN_c, onN_a, onB_t, onB_f, wantedA, astep, Env.val, Env.vals, Env.put, Env.set, Env.get, envFrom, Env.keep, afaddr, aun, AVal.cells, Option.bind_eq_bind, Option.bind_some, Option.pure_def, Nat.reduceEqDiff, Nat.succ_ne_self, if_true, if_false, reduceIte, Option.map_some, List.drop_zero, List.drop_succ_cons, List.length_cons, List.length_nil, Nat.reduceAdd, Nat.reduceLeDiff, Nat.zero_le, Nat.le_refl, List.getElem?_cons_zero, List.getElem?_cons_succ, beq_self_eq_true, Bool.false_eq_true, aundef, Nat.zero_add, Nat.add_zero, Bool.not_true, Bool.not_false, Bool.xor_false, Bool.false_xor, Bool.true_xor, Bool.xor_true, and_self, true_and, and_true, abin, alenT, h1, h2, Bool.true_beq, Bool.false_beq] using hK
    | false =>
      cases h3 : s.toList == undefd.toList with
      | true => simp only [h1, h2, h3, Bool.true_or, Bool.false_or] at hK; unfold undefd at h3; simpa only [r15_3, DO_nil, DO_cons, OR'_nil, OR'_cons, onW_t, onW_f, onN_v, onN_c, onN_a, onB_t, onB_f, wantedA, astep, Env.val, Env.vals, Env.put, Env.set, Env.get, envFrom, Env.keep, afaddr, aun, AVal.cells, Option.bind_eq_bind, Option.bind_some, Option.pure_def, Nat.reduceEqDiff, Nat.succ_ne_self, if_true, if_false, reduceIte, Option.map_some, List.drop_zero, List.drop_succ_cons, List.length_cons, List.length_nil, Nat.reduceAdd, Nat.reduceLeDiff, Nat.zero_le, Nat.le_refl, List.getElem?_cons_zero, List.getElem?_cons_succ, beq_self_eq_true, Bool.false_eq_true, aundef, Nat.zero_add, Nat.add_zero, Bool.not_true, Bool.not_false, Bool.xor_false, Bool.false_xor, Bool.true_xor, Bool.xor_true, and_self, true_and, and_true, abin, alenT, h1, h2, h3, Bool.true_beq, Bool.false_beq] using hK
      | false =>
        simp only [h1, h2, h3, Bool.true_or, Bool.false_or] at hK
        unfold undefd at h3
        cases b8 with
        | true => simp only [Bool.true_or, Bool.false_or] at hK; simpa only [r15_3, DO_nil, DO_cons, OR'_nil, OR'_cons, onW_t, onW_f, onN_v, onN_c, onN_a, onB_t, onB_f, wantedA, astep, Env.val, Env.vals, Env.put, Env.set, Env.get, envFrom, Env.keep, afaddr, aun, AVal.cells, Option.bind_eq_bind, Option.bind_some, Option.pure_def, Nat.reduceEqDiff, Nat.succ_ne_self, if_true, if_false, reduceIte, Option.map_some, List.drop_zero, List.drop_succ_cons, List.length_cons, List.length_nil, Nat.reduceAdd, Nat.reduceLeDiff, Nat.zero_le, Nat.le_refl, List.getElem?_cons_zero, List.getElem?_cons_succ, beq_self_eq_true, Bool.false_eq_true, aundef, Nat.zero_add, Nat.add_zero, Bool.not_true, Bool.not_false, Bool.xor_false, Bool.false_xor, Bool.true_xor, Bool.xor_true, and_self, true_and, and_true, abin, alenT, h1, h2, h3, Bool.true_beq, Bool.false_beq] using hK
        | false =>
          cases h5 : decide (p < 1) with
          | true => simp only [h5, Bool.true_or, Bool.false_or] at hK; simpa only [r15_3, DO_nil, DO_cons, OR'_nil, OR'_cons, onW_t, onW_f, onN_v, onN_c, onN_a, onB_t, onB_f, wantedA, astep, Env.val, Env.vals, Env.put, Env.set, Env.get, envFrom, Env.keep, afaddr, aun, AVal.cells, Option.bind_eq_bind, Option.bind_some, Option.pure_def, Nat.reduceEqDiff, Nat.succ_ne_self, if_true, if_false, reduceIte, Option.map_some, List.drop_zero, List.drop_succ_cons, List.length_cons, List.length_nil, Nat.reduceAdd, Nat.reduceLeDiff, Nat.zero_le, Nat.le_refl, List.getElem?_cons_zero, List.getElem?_cons_succ, beq_self_eq_true, Bool.false_eq_true, aundef, Nat.zero_add, Nat.add_zero, Bool.not_true, Bool.not_false, Bool.xor_false, Bool.false_xor, Bool.true_xor, Bool.xor_true, and_self, true_and, and_true, abin, alenT, h1, h2, h3, h5, Bool.true_beq, Bool.false_beq] using hK
          | false => simp only [h5, Bool.true_or, Bool.false_or] at hK; simpa only [r15_3, DO_nil, DO_cons, OR'_nil, OR'_cons, onW_t, onW_f, onN_v, onN_c, onN_a, onB_t, onB_f, wantedA, astep, Env.val, Env.vals, Env.put, Env.set, Env.get, envFrom, Env.keep, afaddr, aun, AVal.cells, Option.bind_eq_bind, Option.bind_some, Option.pure_def, Nat.reduceEqDiff, Nat.succ_ne_self, if_true, if_false, reduceIte, Option.map_some, List.drop_zero, List.drop_succ_cons, List.length_cons, List.length_nil, Nat.reduceAdd, Nat.reduceLeDiff, Nat.zero_le, Nat.le_refl, List.getElem?_cons_zero, List.getElem?_cons_succ, beq_self_eq_true, Bool.false_eq_true, aundef, Nat.zero_add, Nat.add_zero, Bool.not_true, Bool.not_false, Bool.xor_false, Bool.false_xor, Bool.true_xor, Bool.xor_true, and_self, true_and, and_true, abin, alenT, h1, h2, h3, h5, Bool.true_beq, Bool.false_beq] using hK

/-- How many names at the head are smaller. -/
def place (s : ByteArray) : List (ByteArray × Int) → Nat
  | [] => 0
  | p :: r => if Op.bytesLess p.1.toList s.toList = true then place s r + 1 else 0
theorem place_le (s : ByteArray) : ∀ L, place s L ≤ L.length
  | [] => Nat.le_refl _
  | p :: r => by simp only [place, List.length_cons]; split <;> have := place_le s r <;> omega
theorem place_eq (s : ByteArray) : ∀ (L : List (ByteArray × Int)) (k : Nat), (∀ j, j < k → ∀ p, L[j]? = some p → Op.bytesLess p.1.toList s.toList = true) → k ≤ L.length → (∀ p, L[k]? = some p → Op.bytesLess p.1.toList s.toList = false) → place s L = k
  | [], k, h1, h2, h3 => by simp at h2; simp [place, h2]
  | p :: r, 0, h1, h2, h3 => by simp [place, h3 p (by simp)]
  | p :: r, k + 1, h1, h2, h3 => by
    have := h1 0 (by omega) p (by simp)
    simp only [place, this, if_true]
    rw [place_eq s r k (fun j hj q hq => h1 (j + 1) (by omega) q (by simpa using hq)) (by simpa using h2) (fun q hq => h3 q (by simpa using hq))]

def insertAt (L : List (ByteArray × Int)) (i : Nat) (a : ByteArray × Int) : List (ByteArray × Int) := L.take i ++ [a] ++ L.drop i

theorem whose_form (L : List (ByteArray × Int)) (s : ByteArray) : ∃ p, whose L s = .tup [.int .i64 p, .bool (L.any fun p => p.1.toList == s.toList)] := by
  unfold whose
  cases hf : L.find? (fun p => p.1.toList == s.toList) with
  | none =>
    have : (L.any fun p => p.1.toList == s.toList) = false := by
      rw [List.any_eq_false]; intro p hp; simpa using List.find?_eq_none.mp hf p hp
    exact ⟨0, by rw [this]⟩
  | some q =>
    have : (L.any fun p => p.1.toList == s.toList) = true := List.any_eq_true.mpr ⟨q, List.mem_of_find?_eq_some hf, by simpa using List.find?_some hf⟩
    exact ⟨q.2, by rw [this]⟩
theorem ofp_form (L : List (ByteArray × Int)) (q : Int) : ∃ s, ofp L q = .tup [.str s, .bool (L.any fun p => p.2 == q)] := by
  unfold ofp
  cases hf : L.find? (fun p => p.2 == q) with
  | none =>
    have : (L.any fun p => p.2 == q) = false := by
      rw [List.any_eq_false]; intro p hp; simpa using List.find?_eq_none.mp hf p hp
    exact ⟨_, by rw [this]⟩
  | some x =>
    have : (L.any fun p => p.2 == q) = true := List.any_eq_true.mpr ⟨x, List.mem_of_find?_eq_some hf, by simpa using List.find?_some hf⟩
    exact ⟨x.1, by rw [this]⟩

theorem g15 {H : AHeap} {r : Nat} {L : List (ByteArray × Int)} {e : TypeId} {x y : AVal} (h : RefAt H r L e x y) (s : ByteArray) (p : Int) (hroom : L.length + 1 < 100000) :
    DCall Try.prog 15 [.ptr r 0, .str s, .int .i64 p] H fun a H' => (if (badName s || (L.any fun p => p.1.toList == s.toList) || decide (p < 1) || (L.any fun q => q.2 == p)) = true then a = .int .i64 13 ∧ ∃ x' y', RefAt H' r L e x' y'
      else a = .int .i64 0 ∧ ∃ x' y', RefAt H' r (insertAt L (place s L) (s, p)) e x' y') ∧ H.next ≤ H'.next ∧ ∀ j, j < H.next → j ≠ r → H'.get j = H.get j := by
  refine DCall.of_body (fn := Try.f15) (by kernel_rfl) c15 (by kernel_rfl) (by simp [f15]) ?_
  have hx := load_cell h.blk (o := 0) (v := x) rfl
  have hl := h.nms.alenT (H' := H)
  rw [List.length_map] at hl
  obtain ⟨v1, f1⟩ := whose_form L s
  obtain ⟨v2, f2⟩ := ofp_form L p
  unfold f15
  simp only []
  repeat' (first | refine DR.seq ?_ | refine DR.block ?_ | refine DR.skip ?_ | refine DR.inBlock ?_)
  refine DR.ops ?_
  simp only [r15_0, DO_nil, DO_cons, OR'_nil, OR'_cons, onW_t, onW_f, onN_v, onN_c, onN_a, onB_t, onB_f, wantedA, astep, Env.val, Env.vals, Env.put, Env.set, Env.get, envFrom, Env.keep, afaddr, aun, AVal.cells, Option.bind_eq_bind, Option.bind_some, Option.pure_def, Nat.reduceEqDiff, Nat.succ_ne_self, if_true, if_false, reduceIte, Option.map_some, List.drop_zero, List.drop_succ_cons, List.length_cons, List.length_nil, Nat.reduceAdd, Nat.reduceLeDiff, Nat.zero_le, Nat.le_refl, List.getElem?_cons_zero, List.getElem?_cons_succ, beq_self_eq_true, Bool.false_eq_true, aundef, Nat.zero_add, Nat.add_zero, Bool.not_true, Bool.not_false, Bool.xor_false, Bool.false_xor, Bool.true_xor, Bool.xor_true, and_self, true_and, and_true]
  repeat' (first | refine DR.seq ?_ | refine DR.block ?_ | refine DR.skip ?_ | refine DR.inBlock ?_)
  refine DR.ops ?_
  simp only [r15_1, DO_nil, DO_cons, OR'_nil, OR'_cons, onW_t, onW_f, onN_v, onN_c, onN_a, onB_t, onB_f, wantedA, astep, Env.val, Env.vals, Env.put, Env.set, Env.get, envFrom, Env.keep, afaddr, aun, AVal.cells, Option.bind_eq_bind, Option.bind_some, Option.pure_def, Nat.reduceEqDiff, Nat.succ_ne_self, if_true, if_false, reduceIte, Option.map_some, List.drop_zero, List.drop_succ_cons, List.length_cons, List.length_nil, Nat.reduceAdd, Nat.reduceLeDiff, Nat.zero_le, Nat.le_refl, List.getElem?_cons_zero, List.getElem?_cons_succ, beq_self_eq_true, Bool.false_eq_true, aundef, Nat.zero_add, Nat.add_zero, Bool.not_true, Bool.not_false, Bool.xor_false, Bool.false_xor, Bool.true_xor, Bool.xor_true, and_self, true_and, and_true]
  refine (g9 h s).mono ?_
  rintro a H ⟨rfl, rfl⟩
  simp only [f1, DO_nil, DO_cons, OR'_nil, OR'_cons, onW_t, onW_f, onN_v, onN_c, onN_a, onB_t, onB_f, wantedA, astep, Env.val, Env.vals, Env.put, Env.set, Env.get, envFrom, Env.keep, afaddr, aun, AVal.cells, Option.bind_eq_bind, Option.bind_some, Option.pure_def, Nat.reduceEqDiff, Nat.succ_ne_self, if_true, if_false, reduceIte, Option.map_some, List.drop_zero, List.drop_succ_cons, List.length_cons, List.length_nil, Nat.reduceAdd, Nat.reduceLeDiff, Nat.zero_le, Nat.le_refl, List.getElem?_cons_zero, List.getElem?_cons_succ, beq_self_eq_true, Bool.false_eq_true, aundef, Nat.zero_add, Nat.add_zero, Bool.not_true, Bool.not_false, Bool.xor_false, Bool.false_xor, Bool.true_xor, Bool.xor_true, and_self, true_and, and_true]
  repeat' (first | refine DR.seq ?_ | refine DR.block ?_ | refine DR.skip ?_ | refine DR.inBlock ?_)
  refine DR.ops ?_
  simp only [r15_2, DO_nil, DO_cons, OR'_nil, OR'_cons, onW_t, onW_f, onN_v, onN_c, onN_a, onB_t, onB_f, wantedA, astep, Env.val, Env.vals, Env.put, Env.set, Env.get, envFrom, Env.keep, afaddr, aun, AVal.cells, Option.bind_eq_bind, Option.bind_some, Option.pure_def, Nat.reduceEqDiff, Nat.succ_ne_self, if_true, if_false, reduceIte, Option.map_some, List.drop_zero, List.drop_succ_cons, List.length_cons, List.length_nil, Nat.reduceAdd, Nat.reduceLeDiff, Nat.zero_le, Nat.le_refl, List.getElem?_cons_zero, List.getElem?_cons_succ, beq_self_eq_true, Bool.false_eq_true, aundef, Nat.zero_add, Nat.add_zero, Bool.not_true, Bool.not_false, Bool.xor_false, Bool.false_xor, Bool.true_xor, Bool.xor_true, and_self, true_and, and_true]
  refine (g11 h p).mono ?_
  rintro a H ⟨rfl, rfl⟩
  simp only [f2, DO_nil, DO_cons, OR'_nil, OR'_cons, onW_t, onW_f, onN_v, onN_c, onN_a, onB_t, onB_f, wantedA, astep, Env.val, Env.vals, Env.put, Env.set, Env.get, envFrom, Env.keep, afaddr, aun, AVal.cells, Option.bind_eq_bind, Option.bind_some, Option.pure_def, Nat.reduceEqDiff, Nat.succ_ne_self, if_true, if_false, reduceIte, Option.map_some, List.drop_zero, List.drop_succ_cons, List.length_cons, List.length_nil, Nat.reduceAdd, Nat.reduceLeDiff, Nat.zero_le, Nat.le_refl, List.getElem?_cons_zero, List.getElem?_cons_succ, beq_self_eq_true, Bool.false_eq_true, aundef, Nat.zero_add, Nat.add_zero, Bool.not_true, Bool.not_false, Bool.xor_false, Bool.false_xor, Bool.true_xor, Bool.xor_true, and_self, true_and, and_true]
  repeat' (first | refine DR.seq ?_ | refine DR.block ?_ | refine DR.skip ?_ | refine DR.inBlock ?_)
  refine DR.ops (key15 _ _ _ _ _ _ (fun T' H' => At _ _ _ _ T' H' _ .mk .mk) ?_)
  generalize hbad : (badName s || (L.any fun p => p.1.toList == s.toList) || decide (p < 1) || (L.any fun q => q.2 == p)) = bad
  cases bad with
  | true =>
    refine DR.yes rfl ?_
    repeat' (first | refine DR.seq ?_ | refine DR.block ?_ | refine DR.skip ?_ | refine DR.inBlock ?_)
    refine DR.ops ?_
    simp only [r15_4, DO_nil, DO_cons, OR'_nil, OR'_cons, onW_t, onW_f, onN_v, onN_c, onN_a, onB_t, onB_f, wantedA, astep, Env.val, Env.vals, Env.put, Env.set, Env.get, envFrom, Env.keep, afaddr, aun, AVal.cells, Option.bind_eq_bind, Option.bind_some, Option.pure_def, Nat.reduceEqDiff, Nat.succ_ne_self, if_true, if_false, reduceIte, Option.map_some, List.drop_zero, List.drop_succ_cons, List.length_cons, List.length_nil, Nat.reduceAdd, Nat.reduceLeDiff, Nat.zero_le, Nat.le_refl, List.getElem?_cons_zero, List.getElem?_cons_succ, beq_self_eq_true, Bool.false_eq_true, aundef, Nat.zero_add, Nat.add_zero, Bool.not_true, Bool.not_false, Bool.xor_false, Bool.false_xor, Bool.true_xor, Bool.xor_true, and_self, true_and, and_true]
    exact DR.ret ⟨_, by simp [aresult, ares, Env.get] <;> rfl, by simp only [if_true]; exact ⟨trivial, x, y, h⟩, Nat.le_refl _, fun _ _ _ => rfl⟩
  | false =>
    refine DR.no rfl ?_
    repeat' (first | refine DR.seq ?_ | refine DR.block ?_ | refine DR.skip ?_ | refine DR.inBlock ?_)
    refine DR.ops ?_
    simp only [r15_5, DO_nil, DO_cons, OR'_nil, OR'_cons, onW_t, onW_f, onN_v, onN_c, onN_a, onB_t, onB_f, wantedA, astep, Env.val, Env.vals, Env.put, Env.set, Env.get, envFrom, Env.keep, afaddr, aun, AVal.cells, Option.bind_eq_bind, Option.bind_some, Option.pure_def, Nat.reduceEqDiff, Nat.succ_ne_self, if_true, if_false, reduceIte, Option.map_some, List.drop_zero, List.drop_succ_cons, List.length_cons, List.length_nil, Nat.reduceAdd, Nat.reduceLeDiff, Nat.zero_le, Nat.le_refl, List.getElem?_cons_zero, List.getElem?_cons_succ, beq_self_eq_true, Bool.false_eq_true, aundef, Nat.zero_add, Nat.add_zero, Bool.not_true, Bool.not_false, Bool.xor_false, Bool.false_xor, Bool.true_xor, Bool.xor_true, and_self, true_and, and_true]
    repeat' (first | refine DR.seq ?_ | refine DR.block ?_ | refine DR.skip ?_ | refine DR.inBlock ?_)
    refine DR.loop ?_
    refine (?_ : ∀ (d i : Nat), i + d = L.length → (∀ j, j < i → ∀ p, L[j]? = some p → Op.bytesLess p.1.toList s.toList = true) → DR Try.prog (kof k15) 111 [.code l15_0, .inLoop l15_0, .inBlock 0, .code ((ACode.region false r15_8 [0, 2, 11, 12]).seq ((ACode.region false r15_9 [0, 11, 12, 13]).seq ((ACode.region false r15_10 [0, 11, 13]).seq ((ACode.region false r15_11 []).seq ((ACode.region false r15_12 [6]).seq .ret)))))] [(0, .ptr r 0), (1, .str s), (2, .int .i64 p), (11, .int .i64 i)] H _) L.length 0 (by omega) (fun j hj => by omega)
    have fin : ∀ i, i ≤ L.length → place s L = i → DR Try.prog (kof k15) 111 [.code ((ACode.region false r15_8 [0, 2, 11, 12]).seq ((ACode.region false r15_9 [0, 11, 12, 13]).seq ((ACode.region false r15_10 [0, 11, 13]).seq ((ACode.region false r15_11 []).seq ((ACode.region false r15_12 [6]).seq .ret)))))] [(0, .ptr r 0), (1, .str s), (2, .int .i64 p), (11, .int .i64 i)] H fun T' H' => ∃ a, aresult H' T' [ARes.tmp 6] = some a ∧ (if false = true then a = .int .i64 13 ∧ ∃ x' y', RefAt H' r L e x' y' else a = .int .i64 0 ∧ ∃ x' y', RefAt H' r (insertAt L (place s L) (s, p)) e x' y') ∧ H.next ≤ H'.next ∧ ∀ j, j < H.next → j ≠ r → H'.get j = H.get j := by
      intro i hi hp
      have hlen := h.len
      have hrl := AHeap.get_lt h.blk
      obtain ⟨x1, x2, x5, H2, H4, A⟩ := partA (o := 0) (b := 16) (i := i) (v := .str s) h.blk rfl h.nms (by simpa using hi) (ones_str L) rfl (by simp; omega) (by simp; omega)
      have hr4 : H4.get r = some (.cells e [x, y]) := (A.same r hrl).trans h.blk
      have hy4 : Row H4 3 y (L.map fun p => .int .i64 p.2) := h.pds.frame fun id hid => A.same id (h.pds.ltn hid)
      obtain ⟨y1, y2, y5, H6, H8, B⟩ := partA (o := 1) (b := 8) (i := i) (v := .int .i64 p) hr4 rfl hy4 (by simpa using hi) (ones_int L) rfl (by simp; omega) (by simp; omega)
      have hr8 : H8.get r = some (.cells e [x, y]) := (B.same r (Nat.lt_of_lt_of_le hrl A.next)).trans hr4
      have hx8 : Row H8 9 x (L.map fun p => .str p.1) := h.nms.frame fun id hid => by
        have := h.nms.ltn hid
        rw [B.same id (Nat.lt_of_lt_of_le this A.next), A.same id this]
      have own8 : Own H8 9 x5 ((L.map fun p => .str p.1).take i ++ [.str s]) := A.own.frame fun id hid => B.same id (A.own.lt hid)
      obtain ⟨x6, x7, H9, H10, C⟩ := partB (o := 0) (b := 16) (i := i) hr8 rfl hx8 (by simpa using hi) (ones_str L) own8 (base := H.next) A.mine hrl (Nat.le_trans A.next B.next) (by simp; omega) (by simp; omega)
      have hy10 : Row H10 3 y (L.map fun p => .int .i64 p.2) := h.pds.frame fun id hid => by
        have := h.pds.ltn hid
        have h4 := Nat.lt_of_lt_of_le this A.next
        rw [C.same id (Nat.lt_of_lt_of_le h4 B.next) (fun e => h.sep2 (by rw [hid, e])) (fun e => by have := A.mine id e; omega), B.same id h4, A.same id this]
      have own10 : Own H10 3 y5 ((L.map fun p => .int .i64 p.2).take i ++ [.int .i64 p]) := B.own.frame fun id hid => by
        have h1 := B.mine id hid
        refine C.same id (B.own.lt hid) (fun e => ?_) (fun e => ?_)
        · have := A.next; omega
        · have := A.own.lt e; omega
      obtain ⟨y6, y7, H11, H12, D⟩ := partB (o := 1) (b := 8) (i := i) C.blk rfl hy10 (by simpa using hi) (ones_int L) own10 (base := H4.next) B.mine (Nat.lt_of_lt_of_le hrl A.next) (Nat.le_trans B.next C.next) (by simp; omega) (by simp; omega)
      have a1 := A.l1; have a2 := A.t1; have a3 := A.s1; have a4 := A.a1; have a5 := A.a2
      have b1 := B.l1; have b2 := B.t1; have b3 := B.s1; have b4 := B.a1; have b5 := B.a2
      have c1 := C.l1; have c2 := C.t1; have c3 := C.s1; have c4 := C.a1; have c5 := C.st
      have d1 := D.l1; have d2 := D.t1; have d3 := D.s1; have d4 := D.a1; have d5 := D.st
      repeat' (first | refine DR.seq ?_ | refine DR.block ?_ | refine DR.skip ?_ | refine DR.inBlock ?_)
      refine DR.ops ?_
      simp only [r15_8, DO_nil, DO_cons, OR'_nil, OR'_cons, onW_t, onW_f, onN_v, onN_c, onN_a, onB_t, onB_f, wantedA, astep, Env.val, Env.vals, Env.put, Env.set, Env.get, envFrom, Env.keep, afaddr, aun, AVal.cells, Option.bind_eq_bind, Option.bind_some, Option.pure_def, Nat.reduceEqDiff, Nat.succ_ne_self, if_true, if_false, reduceIte, Option.map_some, List.drop_zero, List.drop_succ_cons, List.length_cons, List.length_nil, Nat.reduceAdd, Nat.reduceLeDiff, Nat.zero_le, Nat.le_refl, List.getElem?_cons_zero, List.getElem?_cons_succ, beq_self_eq_true, Bool.false_eq_true, aundef, Nat.zero_add, Nat.add_zero, Bool.not_true, Bool.not_false, Bool.xor_false, Bool.false_xor, Bool.true_xor, Bool.xor_true, and_self, true_and, and_true, Env.parts, afill, List.take_zero, List.nil_append, List.append_nil, List.drop_nil, a1, a2, a3, a4, a5]
      repeat' (first | refine DR.seq ?_ | refine DR.block ?_ | refine DR.skip ?_ | refine DR.inBlock ?_)
      refine DR.ops ?_
      simp only [r15_9, DO_nil, DO_cons, OR'_nil, OR'_cons, onW_t, onW_f, onN_v, onN_c, onN_a, onB_t, onB_f, wantedA, astep, Env.val, Env.vals, Env.put, Env.set, Env.get, envFrom, Env.keep, afaddr, aun, AVal.cells, Option.bind_eq_bind, Option.bind_some, Option.pure_def, Nat.reduceEqDiff, Nat.succ_ne_self, if_true, if_false, reduceIte, Option.map_some, List.drop_zero, List.drop_succ_cons, List.length_cons, List.length_nil, Nat.reduceAdd, Nat.reduceLeDiff, Nat.zero_le, Nat.le_refl, List.getElem?_cons_zero, List.getElem?_cons_succ, beq_self_eq_true, Bool.false_eq_true, aundef, Nat.zero_add, Nat.add_zero, Bool.not_true, Bool.not_false, Bool.xor_false, Bool.false_xor, Bool.true_xor, Bool.xor_true, and_self, true_and, and_true, Env.parts, afill, List.take_zero, List.nil_append, List.append_nil, List.drop_nil, b1, b2, b3, b4, b5]
      repeat' (first | refine DR.seq ?_ | refine DR.block ?_ | refine DR.skip ?_ | refine DR.inBlock ?_)
      refine DR.ops ?_
      simp only [r15_10, DO_nil, DO_cons, OR'_nil, OR'_cons, onW_t, onW_f, onN_v, onN_c, onN_a, onB_t, onB_f, wantedA, astep, Env.val, Env.vals, Env.put, Env.set, Env.get, envFrom, Env.keep, afaddr, aun, AVal.cells, Option.bind_eq_bind, Option.bind_some, Option.pure_def, Nat.reduceEqDiff, Nat.succ_ne_self, if_true, if_false, reduceIte, Option.map_some, List.drop_zero, List.drop_succ_cons, List.length_cons, List.length_nil, Nat.reduceAdd, Nat.reduceLeDiff, Nat.zero_le, Nat.le_refl, List.getElem?_cons_zero, List.getElem?_cons_succ, beq_self_eq_true, Bool.false_eq_true, aundef, Nat.zero_add, Nat.add_zero, Bool.not_true, Bool.not_false, Bool.xor_false, Bool.false_xor, Bool.true_xor, Bool.xor_true, and_self, true_and, and_true, c1, c2, c3, c4, c5]
      repeat' (first | refine DR.seq ?_ | refine DR.block ?_ | refine DR.skip ?_ | refine DR.inBlock ?_)
      refine DR.ops ?_
      simp only [r15_11, DO_nil, DO_cons, OR'_nil, OR'_cons, onW_t, onW_f, onN_v, onN_c, onN_a, onB_t, onB_f, wantedA, astep, Env.val, Env.vals, Env.put, Env.set, Env.get, envFrom, Env.keep, afaddr, aun, AVal.cells, Option.bind_eq_bind, Option.bind_some, Option.pure_def, Nat.reduceEqDiff, Nat.succ_ne_self, if_true, if_false, reduceIte, Option.map_some, List.drop_zero, List.drop_succ_cons, List.length_cons, List.length_nil, Nat.reduceAdd, Nat.reduceLeDiff, Nat.zero_le, Nat.le_refl, List.getElem?_cons_zero, List.getElem?_cons_succ, beq_self_eq_true, Bool.false_eq_true, aundef, Nat.zero_add, Nat.add_zero, Bool.not_true, Bool.not_false, Bool.xor_false, Bool.false_xor, Bool.true_xor, Bool.xor_true, and_self, true_and, and_true, d1, d2, d3, d4, d5]
      repeat' (first | refine DR.seq ?_ | refine DR.block ?_ | refine DR.skip ?_ | refine DR.inBlock ?_)
      refine DR.ops ?_
      simp only [r15_12, DO_nil, DO_cons, OR'_nil, OR'_cons, onW_t, onW_f, onN_v, onN_c, onN_a, onB_t, onB_f, wantedA, astep, Env.val, Env.vals, Env.put, Env.set, Env.get, envFrom, Env.keep, afaddr, aun, AVal.cells, Option.bind_eq_bind, Option.bind_some, Option.pure_def, Nat.reduceEqDiff, Nat.succ_ne_self, if_true, if_false, reduceIte, Option.map_some, List.drop_zero, List.drop_succ_cons, List.length_cons, List.length_nil, Nat.reduceAdd, Nat.reduceLeDiff, Nat.zero_le, Nat.le_refl, List.getElem?_cons_zero, List.getElem?_cons_succ, beq_self_eq_true, Bool.false_eq_true, aundef, Nat.zero_add, Nat.add_zero, Bool.not_true, Bool.not_false, Bool.xor_false, Bool.false_xor, Bool.true_xor, Bool.xor_true, and_self, true_and, and_true]
      refine DR.ret ⟨_, by simp [aresult, ares, Env.get] <;> rfl, ?_, ?_, fun j hj hjr => ?_⟩
      · simp only [Bool.false_eq_true, if_false, hp]
        refine ⟨trivial, x7, y7, D.blk, ?_, ?_, C.sep, D.sep, ?_⟩
        · have := C.row.frame (H' := H12) fun id hid => by
            refine D.same id (C.row.ltn hid) (fun e => C.sep (by rw [hid, e])) (fun e => ?_)
            have b1 := B.mine id e
            have b2 := B.own.lt e
            rcases C.mine id hid with h1 | h1
            · have := A.own.lt h1; omega
            · omega
          simpa [insertAt] using this
        · have := D.row
          simpa [insertAt] using this
        · simp only [insertAt, List.length_append, List.length_take, List.length_drop, List.length_singleton]; omega
      · exact Nat.le_trans A.next (Nat.le_trans B.next (Nat.le_trans C.next D.next))
      · have j4 := Nat.lt_of_lt_of_le hj A.next
        have j8 := Nat.lt_of_lt_of_le j4 B.next
        rw [D.same j (Nat.lt_of_lt_of_le j8 C.next) hjr (fun e => by have := B.mine j e; omega), C.same j j8 hjr (fun e => by have := A.mine j e; omega), B.same j j4, A.same j hj]
    intro d
    induction d with
    | zero =>
      intro i hi hno
      obtain rfl : i = L.length := by omega
      repeat' (first | refine DR.seq ?_ | refine DR.block ?_ | refine DR.skip ?_ | refine DR.inBlock ?_)
      refine DR.ops ?_
      simp only [r15_6, DO_nil, DO_cons, OR'_nil, OR'_cons, onW_t, onW_f, onN_v, onN_c, onN_a, onB_t, onB_f, wantedA, astep, Env.val, Env.vals, Env.put, Env.set, Env.get, envFrom, Env.keep, afaddr, aun, AVal.cells, Option.bind_eq_bind, Option.bind_some, Option.pure_def, Nat.reduceEqDiff, Nat.succ_ne_self, if_true, if_false, reduceIte, Option.map_some, List.drop_zero, List.drop_succ_cons, List.length_cons, List.length_nil, Nat.reduceAdd, Nat.reduceLeDiff, Nat.zero_le, Nat.le_refl, List.getElem?_cons_zero, List.getElem?_cons_succ, beq_self_eq_true, Bool.false_eq_true, aundef, Nat.zero_add, Nat.add_zero, Bool.not_true, Bool.not_false, Bool.xor_false, Bool.false_xor, Bool.true_xor, Bool.xor_true, and_self, true_and, and_true, hx, hl, abin, Int.lt_irrefl, decide_false, Bool.true_beq, Bool.false_beq]
      refine DR.no rfl ?_
      refine DR.exit rfl ?_
      refine DR.only [0, 1, 2, 11] ?_
      exact fin _ (Nat.le_refl _) (place_eq s L _ hno (Nat.le_refl _) (fun p hp => by simp at hp))
    | succ d ih =>
      intro i hi hno
      have hlt : i < L.length := by omega
      obtain ⟨q, hq⟩ : ∃ q, L[i]? = some q := ⟨_, List.getElem?_eq_getElem hlt⟩
      have ha := h.nms.addr H (k := .i64) (i := i) (by simpa using hlt)
      have hld := h.nms.load (i := i) (v := .str q.1) (by simp [hq])
      repeat' (first | refine DR.seq ?_ | refine DR.block ?_ | refine DR.skip ?_ | refine DR.inBlock ?_)
      refine DR.ops ?_
      have hcmp : decide ((i : Int) < (L.length : Int)) = true := by simp; omega
      cases hb : Op.bytesLess q.1.toList s.toList with
      | true =>
        simp only [r15_6, DO_nil, DO_cons, OR'_nil, OR'_cons, onW_t, onW_f, onN_v, onN_c, onN_a, onB_t, onB_f, wantedA, astep, Env.val, Env.vals, Env.put, Env.set, Env.get, envFrom, Env.keep, afaddr, aun, AVal.cells, Option.bind_eq_bind, Option.bind_some, Option.pure_def, Nat.reduceEqDiff, Nat.succ_ne_self, if_true, if_false, reduceIte, Option.map_some, List.drop_zero, List.drop_succ_cons, List.length_cons, List.length_nil, Nat.reduceAdd, Nat.reduceLeDiff, Nat.zero_le, Nat.le_refl, List.getElem?_cons_zero, List.getElem?_cons_succ, beq_self_eq_true, Bool.false_eq_true, aundef, Nat.zero_add, Nat.add_zero, Bool.not_true, Bool.not_false, Bool.xor_false, Bool.false_xor, Bool.true_xor, Bool.xor_true, and_self, true_and, and_true, hx, hl, abin, hcmp, ha, hld, hb, Bool.true_beq, Bool.false_beq]
        refine DR.yes rfl ?_
        repeat' (first | refine DR.seq ?_ | refine DR.block ?_ | refine DR.skip ?_ | refine DR.inBlock ?_)
        refine DR.ops ?_
        have hw : IntKind.i64.wrap ((i : Int) + 1) = ((i + 1 : Nat) : Int) := by
          have := h.len
          exact wrap64 (n := i + 1) (by omega)
        simp only [r15_7, DO_nil, DO_cons, OR'_nil, OR'_cons, onW_t, onW_f, onN_v, onN_c, onN_a, onB_t, onB_f, wantedA, astep, Env.val, Env.vals, Env.put, Env.set, Env.get, envFrom, Env.keep, afaddr, aun, AVal.cells, Option.bind_eq_bind, Option.bind_some, Option.pure_def, Nat.reduceEqDiff, Nat.succ_ne_self, if_true, if_false, reduceIte, Option.map_some, List.drop_zero, List.drop_succ_cons, List.length_cons, List.length_nil, Nat.reduceAdd, Nat.reduceLeDiff, Nat.zero_le, Nat.le_refl, List.getElem?_cons_zero, List.getElem?_cons_succ, beq_self_eq_true, Bool.false_eq_true, aundef, Nat.zero_add, Nat.add_zero, Bool.not_true, Bool.not_false, Bool.xor_false, Bool.false_xor, Bool.true_xor, Bool.xor_true, and_self, true_and, and_true, abin, hw]
        repeat' (first | refine DR.seq ?_ | refine DR.block ?_ | refine DR.skip ?_ | refine DR.inBlock ?_)
        refine DR.inLoop ?_
        refine ih (i + 1) (by omega) fun j hj q' hq' => ?_
        rcases Nat.lt_or_ge j i with h1 | h1
        · exact hno j h1 q' hq'
        · obtain rfl : j = i := by omega
          rw [hq] at hq'; cases hq'; exact hb
      | false =>
        simp only [r15_6, DO_nil, DO_cons, OR'_nil, OR'_cons, onW_t, onW_f, onN_v, onN_c, onN_a, onB_t, onB_f, wantedA, astep, Env.val, Env.vals, Env.put, Env.set, Env.get, envFrom, Env.keep, afaddr, aun, AVal.cells, Option.bind_eq_bind, Option.bind_some, Option.pure_def, Nat.reduceEqDiff, Nat.succ_ne_self, if_true, if_false, reduceIte, Option.map_some, List.drop_zero, List.drop_succ_cons, List.length_cons, List.length_nil, Nat.reduceAdd, Nat.reduceLeDiff, Nat.zero_le, Nat.le_refl, List.getElem?_cons_zero, List.getElem?_cons_succ, beq_self_eq_true, Bool.false_eq_true, aundef, Nat.zero_add, Nat.add_zero, Bool.not_true, Bool.not_false, Bool.xor_false, Bool.false_xor, Bool.true_xor, Bool.xor_true, and_self, true_and, and_true, hx, hl, abin, hcmp, ha, hld, hb, Bool.true_beq, Bool.false_beq]
        refine DR.no rfl ?_
        refine DR.exit rfl ?_
        refine DR.only [0, 1, 2, 11] ?_
        exact fin i (by omega) (place_eq s L i hno (by omega) (fun p hp => by rw [hq] at hp; cases hp; exact hb))
end Go.Am.Rn
