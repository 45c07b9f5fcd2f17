import Derived.Test.YtakbdcikjpmmiaaW1
set_option linter.unusedVariables false
set_option linter.unusedSimpArgs false
namespace Go.Am.Rn
open Go.Proofs

/-- A name's entry: in both maps, as they were laid. -/
structure Rec where
  nm : ByteArray
  pid : Int
  b1 : Nat
  b2 : Nat
def ent1 (a : Rec) : AEntry := ⟨.str a.nm, .int .i64 a.pid, a.b1⟩
def ent2 (a : Rec) : AEntry := ⟨.int .i64 a.pid, .str a.nm, a.b2⟩
def look1 (s : ByteArray) : List Rec → Nat → Option (Nat × Rec)
  | [], _ => none
  | a :: r, i => if s == a.nm then some (i, a) else look1 s r (i + 1)
def look2 (p : Int) : List Rec → Nat → Option (Nat × Rec)
  | [], _ => none
  | a :: r, i => if p == a.pid then some (i, a) else look2 p r (i + 1)
theorem findE_1 (s : ByteArray) : ∀ (A : List Rec) (i : Nat), findE (.str s) (A.map ent1) i = some ((look1 s A i).map fun p => (p.1, ent1 p.2))
  | [], _ => rfl
  | a :: r, i => by
    simp only [List.map_cons, findE, ent1, keyEq, look1]
    cases s == a.nm with
    | true => rfl
    | false => exact findE_1 s r (i + 1)
theorem findE_2 (p : Int) : ∀ (A : List Rec) (i : Nat), findE (.int .i64 p) (A.map ent2) i = some ((look2 p A i).map fun q => (q.1, ent2 q.2))
  | [], _ => rfl
  | a :: r, i => by
    simp only [List.map_cons, findE, ent2, keyEq, look2, if_true]
    cases p == a.pid with
    | true => rfl
    | false => exact findE_2 p r (i + 1)

/-- The registry, at an address. -/
structure NamAt (H : AHeap) (n : Nat) (A : List Rec) (e : TypeId) (m1 m2 c1 c2 : Nat) : Prop where
  blk : H.get n = some (.cells e [.map m1, .map m2])
  mp1 : H.get m1 = some (.map (A.map ent1) c1)
  mp2 : H.get m2 = some (.map (A.map ent2) c2)
  ne : m1 ≠ m2
  old : ∀ a ∈ A, a.b1 < c1 ∧ a.b2 < c2
  uniq : (A.map (·.b1)).Nodup

def nwhose (A : List Rec) (s : ByteArray) : AVal := match look1 s A 0 with
  | some q => .tup [.int .i64 q.2.pid, .bool true]
  | none => .tup [.int .i64 0, .bool false]
def nof (A : List Rec) (p : Int) : AVal := match look2 p A 0 with
  | some q => .tup [.str q.2.nm, .bool true]
  | none => .tup [.str ⟨#[]⟩, .bool false]
theorem lookup1 {H : AHeap} {n : Nat} {A : List Rec} {e : TypeId} {m1 m2 c1 c2 : Nat} (h : NamAt H n A e m1 m2 c1 c2) (s : ByteArray) : alookup H 0 (.int .i64 0) true (.map m1) (.str s) = some (nwhose A s) := by
  have hk : keyOk 0 (.str s) = true := rfl
  simp only [alookup, hk, h.mp1, findE_1, nwhose]
  cases look1 s A 0 <;> rfl
theorem lookup2 {H : AHeap} {n : Nat} {A : List Rec} {e : TypeId} {m1 m2 c1 c2 : Nat} (h : NamAt H n A e m1 m2 c1 c2) (p : Int) : alookup H 1 (.str ⟨#[]⟩) true (.map m2) (.int .i64 p) = some (nof A p) := by
  have hk : keyOk 1 (.int .i64 p) = true := rfl
  simp only [alookup, hk, h.mp2, findE_2, nof]
  cases look2 p A 0 <;> rfl
theorem nwhose_form (A : List Rec) (s : ByteArray) : ∃ p b, nwhose A s = .tup [.int .i64 p, .bool b] := by
  unfold nwhose; split <;> exact ⟨_, _, rfl⟩
theorem nof_form (A : List Rec) (p : Int) : ∃ s b, nof A p = .tup [.str s, .bool b] := by
  unfold nof; split <;> exact ⟨_, _, rfl⟩

theorem g8 {H : AHeap} {n : Nat} {A : List Rec} {e : TypeId} {m1 m2 c1 c2 : Nat} (h : NamAt H n A e m1 m2 c1 c2) (s : ByteArray) : DCall Try.prog 8 [.ptr n 0, .str s] H fun a H' => H' = H ∧ a = nwhose A s := by
  refine DCall.of_body (fn := Try.f8) (by kernel_rfl) c8 (by kernel_rfl) (by simp [f8]) ?_
  have hx := load_cell h.blk (o := 0) (v := .map m1) rfl
  obtain ⟨p, b, hf⟩ := nwhose_form A s
  have hlk := lookup1 h s
  rw [hf] at hlk ⊢
  unfold f8
  simp only []
  repeat' (first | refine DR.seq ?_ | refine DR.block ?_ | refine DR.skip ?_ | refine DR.inBlock ?_)
  refine DR.ops ?_
  simp only [r8_0, DO_nil, DO_cons, OR'_nil, OR'_cons, onW_t, onW_f, onN_v, onN_c, onN_a, onB_t, onB_f, wantedA, astep, Env.val, Env.vals, Env.put, Env.set, Env.get, envFrom, Env.keep, afaddr, aun, AVal.cells, Option.bind_eq_bind, Option.bind_some, Option.pure_def, Nat.reduceEqDiff, Nat.succ_ne_self, if_true, if_false, reduceIte, Option.map_some, List.drop_zero, List.drop_succ_cons, List.length_cons, List.length_nil, Nat.reduceAdd, Nat.reduceLeDiff, Nat.zero_le, Nat.le_refl, List.getElem?_cons_zero, List.getElem?_cons_succ, beq_self_eq_true, Bool.false_eq_true, aundef, Nat.zero_add, Nat.add_zero, Bool.not_true, Bool.not_false, Bool.xor_false, Bool.false_xor, Bool.true_xor, Bool.xor_true, and_self, true_and, and_true]
  repeat' (first | refine DR.seq ?_ | refine DR.block ?_ | refine DR.skip ?_ | refine DR.inBlock ?_)
  refine DR.ops ?_
  simp only [r8_1, DO_nil, DO_cons, OR'_nil, OR'_cons, onW_t, onW_f, onN_v, onN_c, onN_a, onB_t, onB_f, wantedA, astep, Env.val, Env.vals, Env.put, Env.set, Env.get, envFrom, Env.keep, afaddr, aun, AVal.cells, Option.bind_eq_bind, Option.bind_some, Option.pure_def, Nat.reduceEqDiff, Nat.succ_ne_self, if_true, if_false, reduceIte, Option.map_some, List.drop_zero, List.drop_succ_cons, List.length_cons, List.length_nil, Nat.reduceAdd, Nat.reduceLeDiff, Nat.zero_le, Nat.le_refl, List.getElem?_cons_zero, List.getElem?_cons_succ, beq_self_eq_true, Bool.false_eq_true, aundef, Nat.zero_add, Nat.add_zero, Bool.not_true, Bool.not_false, Bool.xor_false, Bool.false_xor, Bool.true_xor, Bool.xor_true, and_self, true_and, and_true, hx, hlk]
  repeat' (first | refine DR.seq ?_ | refine DR.block ?_ | refine DR.skip ?_ | refine DR.inBlock ?_)
  refine DR.ops ?_
  simp only [r8_2, DO_nil, DO_cons, OR'_nil, OR'_cons, onW_t, onW_f, onN_v, onN_c, onN_a, onB_t, onB_f, wantedA, astep, Env.val, Env.vals, Env.put, Env.set, Env.get, envFrom, Env.keep, afaddr, aun, AVal.cells, Option.bind_eq_bind, Option.bind_some, Option.pure_def, Nat.reduceEqDiff, Nat.succ_ne_self, if_true, if_false, reduceIte, Option.map_some, List.drop_zero, List.drop_succ_cons, List.length_cons, List.length_nil, Nat.reduceAdd, Nat.reduceLeDiff, Nat.zero_le, Nat.le_refl, List.getElem?_cons_zero, List.getElem?_cons_succ, beq_self_eq_true, Bool.false_eq_true, aundef, Nat.zero_add, Nat.add_zero, Bool.not_true, Bool.not_false, Bool.xor_false, Bool.false_xor, Bool.true_xor, Bool.xor_true, and_self, true_and, and_true]
  exact DR.ret ⟨_, by simp [aresult, ares, Env.get] <;> rfl, rfl, rfl⟩

theorem g10 {H : AHeap} {n : Nat} {A : List Rec} {e : TypeId} {m1 m2 c1 c2 : Nat} (h : NamAt H n A e m1 m2 c1 c2) (q : Int) : DCall Try.prog 10 [.ptr n 0, .int .i64 q] H fun a H' => H' = H ∧ a = nof A q := by
  refine DCall.of_body (fn := Try.f10) (by kernel_rfl) c10 (by kernel_rfl) (by simp [f10]) ?_
  have hx := load_cell h.blk (o := 1) (v := .map m2) rfl
  obtain ⟨p, b, hf⟩ := nof_form A q
  have hlk := lookup2 h q
  rw [hf] at hlk ⊢
  unfold f10
  simp only []
  repeat' (first | refine DR.seq ?_ | refine DR.block ?_ | refine DR.skip ?_ | refine DR.inBlock ?_)
  refine DR.ops ?_
  simp only [r10_0, DO_nil, DO_cons, OR'_nil, OR'_cons, onW_t, onW_f, onN_v, onN_c, onN_a, onB_t, onB_f, wantedA, astep, Env.val, Env.vals, Env.put, Env.set, Env.get, envFrom, Env.keep, afaddr, aun, AVal.cells, Option.bind_eq_bind, Option.bind_some, Option.pure_def, Nat.reduceEqDiff, Nat.succ_ne_self, if_true, if_false, reduceIte, Option.map_some, List.drop_zero, List.drop_succ_cons, List.length_cons, List.length_nil, Nat.reduceAdd, Nat.reduceLeDiff, Nat.zero_le, Nat.le_refl, List.getElem?_cons_zero, List.getElem?_cons_succ, beq_self_eq_true, Bool.false_eq_true, aundef, Nat.zero_add, Nat.add_zero, Bool.not_true, Bool.not_false, Bool.xor_false, Bool.false_xor, Bool.true_xor, Bool.xor_true, and_self, true_and, and_true]
  repeat' (first | refine DR.seq ?_ | refine DR.block ?_ | refine DR.skip ?_ | refine DR.inBlock ?_)
  refine DR.ops ?_
  simp only [r10_1, DO_nil, DO_cons, OR'_nil, OR'_cons, onW_t, onW_f, onN_v, onN_c, onN_a, onB_t, onB_f, wantedA, astep, Env.val, Env.vals, Env.put, Env.set, Env.get, envFrom, Env.keep, afaddr, aun, AVal.cells, Option.bind_eq_bind, Option.bind_some, Option.pure_def, Nat.reduceEqDiff, Nat.succ_ne_self, if_true, if_false, reduceIte, Option.map_some, List.drop_zero, List.drop_succ_cons, List.length_cons, List.length_nil, Nat.reduceAdd, Nat.reduceLeDiff, Nat.zero_le, Nat.le_refl, List.getElem?_cons_zero, List.getElem?_cons_succ, beq_self_eq_true, Bool.false_eq_true, aundef, Nat.zero_add, Nat.add_zero, Bool.not_true, Bool.not_false, Bool.xor_false, Bool.false_xor, Bool.true_xor, Bool.xor_true, and_self, true_and, and_true, hx, hlk]
  repeat' (first | refine DR.seq ?_ | refine DR.block ?_ | refine DR.skip ?_ | refine DR.inBlock ?_)
  refine DR.ops ?_
  simp only [r10_2, DO_nil, DO_cons, OR'_nil, OR'_cons, onW_t, onW_f, onN_v, onN_c, onN_a, onB_t, onB_f, wantedA, astep, Env.val, Env.vals, Env.put, Env.set, Env.get, envFrom, Env.keep, afaddr, aun, AVal.cells, Option.bind_eq_bind, Option.bind_some, Option.pure_def, Nat.reduceEqDiff, Nat.succ_ne_self, if_true, if_false, reduceIte, Option.map_some, List.drop_zero, List.drop_succ_cons, List.length_cons, List.length_nil, Nat.reduceAdd, Nat.reduceLeDiff, Nat.zero_le, Nat.le_refl, List.getElem?_cons_zero, List.getElem?_cons_succ, beq_self_eq_true, Bool.false_eq_true, aundef, Nat.zero_add, Nat.add_zero, Bool.not_true, Bool.not_false, Bool.xor_false, Bool.false_xor, Bool.true_xor, Bool.xor_true, and_self, true_and, and_true]
  exact DR.ret ⟨_, by simp [aresult, ares, Env.get] <;> rfl, rfl, rfl⟩

theorem look1_lt {s : ByteArray} : ∀ {A : List Rec} {i j : Nat} {a : Rec}, look1 s A i = some (j, a) → i ≤ j ∧ A[j - i]? = some a ∧ (s == a.nm) = true
  | [], _, _, _, h => by cases h
  | b :: r, i, j, a, h => by
    simp only [look1] at h
    split at h
    · rename_i hb; cases h; exact ⟨Nat.le_refl _, by simp, hb⟩
    · obtain ⟨h1, h2, h3⟩ := look1_lt h
      refine ⟨by omega, ?_, h3⟩
      rw [show j - i = (j - (i + 1)) + 1 by omega]; simpa using h2
theorem look2_at {A : List Rec} (hd : (A.map (·.pid)).Nodup) : ∀ {i k : Nat} {a : Rec}, A[k]? = some a → look2 a.pid A i = some (i + k, a) := by
  induction A with
  | nil => intro i k a h; simp at h
  | cons b r ih =>
    intro i k a h
    simp only [List.map_cons, List.nodup_cons] at hd
    cases k with
    | zero => simp at h; subst h; simp [look2]
    | succ k =>
      simp at h
      have hne : a.pid ≠ b.pid := fun e => hd.1 (by rw [← e]; exact List.mem_map.mpr ⟨a, List.mem_of_getElem? h, rfl⟩)
      simp only [look2]
      rw [if_neg (by simpa using hne), ih hd.2 h]
      congr 2; omega

theorem erase_map {α β : Type} (f : α → β) : ∀ (l : List α) (k : Nat), (l.map f).eraseIdx k = (l.eraseIdx k).map f
  | [], _ => rfl
  | a :: r, 0 => rfl
  | a :: r, k + 1 => by simp only [List.map_cons, List.eraseIdx_cons_succ, erase_map f r k]

/-- Its block and its maps alone have turned. -/
def Only (H H' : AHeap) (m1 m2 : Nat) : Prop := H'.next = H.next ∧ ∀ i, i ≠ m1 → i ≠ m2 → H'.get i = H.get i

theorem g16 {H : AHeap} {n : Nat} {A : List Rec} {e : TypeId} {m1 m2 c1 c2 : Nat} (h : NamAt H n A e m1 m2 c1 c2) (hd : (A.map (·.pid)).Nodup) (s : ByteArray) :
    DCall Try.prog 16 [.ptr n 0, .str s] H fun a H' => Only H H' m1 m2 ∧ match look1 s A 0 with
      | none => a = .int .i64 13 ∧ NamAt H' n A e m1 m2 c1 c2
      | some q => a = .int .i64 0 ∧ NamAt H' n (A.eraseIdx q.1) e m1 m2 c1 c2 := by
  refine DCall.of_body (fn := Try.f16) (by kernel_rfl) c16 (by kernel_rfl) (by simp [f16]) ?_
  have hx := load_cell h.blk (o := 0) (v := .map m1) rfl
  have hlk := lookup1 h s
  unfold f16
  simp only []
  repeat' (first | refine DR.seq ?_ | refine DR.block ?_ | refine DR.skip ?_ | refine DR.inBlock ?_)
  refine DR.ops ?_
  simp only [r16_0, DO_nil, DO_cons, OR'_nil, OR'_cons, onW_t, onW_f, onN_v, onN_c, onN_a, onB_t, onB_f, wantedA, astep, Env.val, Env.vals, Env.put, Env.set, Env.get, envFrom, Env.keep, afaddr, aun, AVal.cells, Option.bind_eq_bind, Option.bind_some, Option.pure_def, Nat.reduceEqDiff, Nat.succ_ne_self, if_true, if_false, reduceIte, Option.map_some, List.drop_zero, List.drop_succ_cons, List.length_cons, List.length_nil, Nat.reduceAdd, Nat.reduceLeDiff, Nat.zero_le, Nat.le_refl, List.getElem?_cons_zero, List.getElem?_cons_succ, beq_self_eq_true, Bool.false_eq_true, aundef, Nat.zero_add, Nat.add_zero, Bool.not_true, Bool.not_false, Bool.xor_false, Bool.false_xor, Bool.true_xor, Bool.xor_true, and_self, true_and, and_true]
  repeat' (first | refine DR.seq ?_ | refine DR.block ?_ | refine DR.skip ?_ | refine DR.inBlock ?_)
  refine DR.ops ?_
  cases hl : look1 s A 0 with
  | none =>
    simp only [nwhose, hl] at hlk
    simp only [r16_1, DO_nil, DO_cons, OR'_nil, OR'_cons, onW_t, onW_f, onN_v, onN_c, onN_a, onB_t, onB_f, wantedA, astep, Env.val, Env.vals, Env.put, Env.set, Env.get, envFrom, Env.keep, afaddr, aun, AVal.cells, Option.bind_eq_bind, Option.bind_some, Option.pure_def, Nat.reduceEqDiff, Nat.succ_ne_self, if_true, if_false, reduceIte, Option.map_some, List.drop_zero, List.drop_succ_cons, List.length_cons, List.length_nil, Nat.reduceAdd, Nat.reduceLeDiff, Nat.zero_le, Nat.le_refl, List.getElem?_cons_zero, List.getElem?_cons_succ, beq_self_eq_true, Bool.false_eq_true, aundef, Nat.zero_add, Nat.add_zero, Bool.not_true, Bool.not_false, Bool.xor_false, Bool.false_xor, Bool.true_xor, Bool.xor_true, and_self, true_and, and_true, hx, hlk]
    repeat' (first | refine DR.seq ?_ | refine DR.block ?_ | refine DR.skip ?_ | refine DR.inBlock ?_)
    refine DR.ops ?_
    simp only [r16_2, DO_nil, DO_cons, OR'_nil, OR'_cons, onW_t, onW_f, onN_v, onN_c, onN_a, onB_t, onB_f, wantedA, astep, Env.val, Env.vals, Env.put, Env.set, Env.get, envFrom, Env.keep, afaddr, aun, AVal.cells, Option.bind_eq_bind, Option.bind_some, Option.pure_def, Nat.reduceEqDiff, Nat.succ_ne_self, if_true, if_false, reduceIte, Option.map_some, List.drop_zero, List.drop_succ_cons, List.length_cons, List.length_nil, Nat.reduceAdd, Nat.reduceLeDiff, Nat.zero_le, Nat.le_refl, List.getElem?_cons_zero, List.getElem?_cons_succ, beq_self_eq_true, Bool.false_eq_true, aundef, Nat.zero_add, Nat.add_zero, Bool.not_true, Bool.not_false, Bool.xor_false, Bool.false_xor, Bool.true_xor, Bool.xor_true, and_self, true_and, and_true]
    refine DR.yes rfl ?_
    repeat' (first | refine DR.seq ?_ | refine DR.block ?_ | refine DR.skip ?_ | refine DR.inBlock ?_)
    refine DR.ops ?_
    simp only [r16_3, DO_nil, DO_cons, OR'_nil, OR'_cons, onW_t, onW_f, onN_v, onN_c, onN_a, onB_t, onB_f, wantedA, astep, Env.val, Env.vals, Env.put, Env.set, Env.get, envFrom, Env.keep, afaddr, aun, AVal.cells, Option.bind_eq_bind, Option.bind_some, Option.pure_def, Nat.reduceEqDiff, Nat.succ_ne_self, if_true, if_false, reduceIte, Option.map_some, List.drop_zero, List.drop_succ_cons, List.length_cons, List.length_nil, Nat.reduceAdd, Nat.reduceLeDiff, Nat.zero_le, Nat.le_refl, List.getElem?_cons_zero, List.getElem?_cons_succ, beq_self_eq_true, Bool.false_eq_true, aundef, Nat.zero_add, Nat.add_zero, Bool.not_true, Bool.not_false, Bool.xor_false, Bool.false_xor, Bool.true_xor, Bool.xor_true, and_self, true_and, and_true]
    exact DR.ret ⟨_, by simp [aresult, ares, Env.get] <;> rfl, ⟨rfl, fun _ _ _ => rfl⟩, rfl, h⟩
  | some q =>
    obtain ⟨k, a⟩ := q
    simp only [nwhose, hl] at hlk
    obtain ⟨_, hk, hnm⟩ := look1_lt hl
    rw [Nat.sub_zero] at hk
    have hl2 := look2_at hd (i := 0) hk
    rw [Nat.zero_add] at hl2
    have hdel1 : adel H 0 (.map m1) (.str s) = some (H.set m1 (.map ((A.map ent1).eraseIdx k) c1)) := by
      have hk : keyOk 0 (.str s) = true := rfl
      simp [adel, hk, h.mp1, findE_1, hl]
    have lt1 := AHeap.get_lt h.mp1
    have lt2 := AHeap.get_lt h.mp2
    have hn1 : n ≠ m1 := fun e' => by have := h.blk; rw [e', h.mp1] at this; cases this
    have hn2 : n ≠ m2 := fun e' => by have := h.blk; rw [e', h.mp2] at this; cases this
    have hb' : (H.set m1 (.map ((A.map ent1).eraseIdx k) c1)).get n = some (.cells e [.map m1, .map m2]) := by rw [AHeap.get_set, if_neg hn1]; exact h.blk
    have hm2' : (H.set m1 (.map ((A.map ent1).eraseIdx k) c1)).get m2 = some (.map (A.map ent2) c2) := by rw [AHeap.get_set, if_neg (Ne.symm h.ne)]; exact h.mp2
    have hy := load_cell hb' (o := 1) (v := .map m2) rfl
    have hdel2 : adel (H.set m1 (.map ((A.map ent1).eraseIdx k) c1)) 1 (.map m2) (.int .i64 a.pid) = some ((H.set m1 (.map ((A.map ent1).eraseIdx k) c1)).set m2 (.map ((A.map ent2).eraseIdx k) c2)) := by
      have hk : keyOk 1 (.int .i64 a.pid) = true := rfl
      simp [adel, hk, hm2', findE_2, hl2]
    simp only [r16_1, DO_nil, DO_cons, OR'_nil, OR'_cons, onW_t, onW_f, onN_v, onN_c, onN_a, onB_t, onB_f, wantedA, astep, Env.val, Env.vals, Env.put, Env.set, Env.get, envFrom, Env.keep, afaddr, aun, AVal.cells, Option.bind_eq_bind, Option.bind_some, Option.pure_def, Nat.reduceEqDiff, Nat.succ_ne_self, if_true, if_false, reduceIte, Option.map_some, List.drop_zero, List.drop_succ_cons, List.length_cons, List.length_nil, Nat.reduceAdd, Nat.reduceLeDiff, Nat.zero_le, Nat.le_refl, List.getElem?_cons_zero, List.getElem?_cons_succ, beq_self_eq_true, Bool.false_eq_true, aundef, Nat.zero_add, Nat.add_zero, Bool.not_true, Bool.not_false, Bool.xor_false, Bool.false_xor, Bool.true_xor, Bool.xor_true, and_self, true_and, and_true, hx, hlk]
    repeat' (first | refine DR.seq ?_ | refine DR.block ?_ | refine DR.skip ?_ | refine DR.inBlock ?_)
    refine DR.ops ?_
    simp only [r16_2, DO_nil, DO_cons, OR'_nil, OR'_cons, onW_t, onW_f, onN_v, onN_c, onN_a, onB_t, onB_f, wantedA, astep, Env.val, Env.vals, Env.put, Env.set, Env.get, envFrom, Env.keep, afaddr, aun, AVal.cells, Option.bind_eq_bind, Option.bind_some, Option.pure_def, Nat.reduceEqDiff, Nat.succ_ne_self, if_true, if_false, reduceIte, Option.map_some, List.drop_zero, List.drop_succ_cons, List.length_cons, List.length_nil, Nat.reduceAdd, Nat.reduceLeDiff, Nat.zero_le, Nat.le_refl, List.getElem?_cons_zero, List.getElem?_cons_succ, beq_self_eq_true, Bool.false_eq_true, aundef, Nat.zero_add, Nat.add_zero, Bool.not_true, Bool.not_false, Bool.xor_false, Bool.false_xor, Bool.true_xor, Bool.xor_true, and_self, true_and, and_true]
    refine DR.no rfl ?_
    repeat' (first | refine DR.seq ?_ | refine DR.block ?_ | refine DR.skip ?_ | refine DR.inBlock ?_)
    refine DR.ops ?_
    simp only [r16_4, DO_nil, DO_cons, OR'_nil, OR'_cons, onW_t, onW_f, onN_v, onN_c, onN_a, onB_t, onB_f, wantedA, astep, Env.val, Env.vals, Env.put, Env.set, Env.get, envFrom, Env.keep, afaddr, aun, AVal.cells, Option.bind_eq_bind, Option.bind_some, Option.pure_def, Nat.reduceEqDiff, Nat.succ_ne_self, if_true, if_false, reduceIte, Option.map_some, List.drop_zero, List.drop_succ_cons, List.length_cons, List.length_nil, Nat.reduceAdd, Nat.reduceLeDiff, Nat.zero_le, Nat.le_refl, List.getElem?_cons_zero, List.getElem?_cons_succ, beq_self_eq_true, Bool.false_eq_true, aundef, Nat.zero_add, Nat.add_zero, Bool.not_true, Bool.not_false, Bool.xor_false, Bool.false_xor, Bool.true_xor, Bool.xor_true, and_self, true_and, and_true, hx, hdel1]
    repeat' (first | refine DR.seq ?_ | refine DR.block ?_ | refine DR.skip ?_ | refine DR.inBlock ?_)
    refine DR.ops ?_
    simp only [r16_5, DO_nil, DO_cons, OR'_nil, OR'_cons, onW_t, onW_f, onN_v, onN_c, onN_a, onB_t, onB_f, wantedA, astep, Env.val, Env.vals, Env.put, Env.set, Env.get, envFrom, Env.keep, afaddr, aun, AVal.cells, Option.bind_eq_bind, Option.bind_some, Option.pure_def, Nat.reduceEqDiff, Nat.succ_ne_self, if_true, if_false, reduceIte, Option.map_some, List.drop_zero, List.drop_succ_cons, List.length_cons, List.length_nil, Nat.reduceAdd, Nat.reduceLeDiff, Nat.zero_le, Nat.le_refl, List.getElem?_cons_zero, List.getElem?_cons_succ, beq_self_eq_true, Bool.false_eq_true, aundef, Nat.zero_add, Nat.add_zero, Bool.not_true, Bool.not_false, Bool.xor_false, Bool.false_xor, Bool.true_xor, Bool.xor_true, and_self, true_and, and_true, hy, hdel2]
    repeat' (first | refine DR.seq ?_ | refine DR.block ?_ | refine DR.skip ?_ | refine DR.inBlock ?_)
    refine DR.ops ?_
    simp only [r16_6, DO_nil, DO_cons, OR'_nil, OR'_cons, onW_t, onW_f, onN_v, onN_c, onN_a, onB_t, onB_f, wantedA, astep, Env.val, Env.vals, Env.put, Env.set, Env.get, envFrom, Env.keep, afaddr, aun, AVal.cells, Option.bind_eq_bind, Option.bind_some, Option.pure_def, Nat.reduceEqDiff, Nat.succ_ne_self, if_true, if_false, reduceIte, Option.map_some, List.drop_zero, List.drop_succ_cons, List.length_cons, List.length_nil, Nat.reduceAdd, Nat.reduceLeDiff, Nat.zero_le, Nat.le_refl, List.getElem?_cons_zero, List.getElem?_cons_succ, beq_self_eq_true, Bool.false_eq_true, aundef, Nat.zero_add, Nat.add_zero, Bool.not_true, Bool.not_false, Bool.xor_false, Bool.false_xor, Bool.true_xor, Bool.xor_true, and_self, true_and, and_true]
    refine DR.ret ⟨_, by simp [aresult, ares, Env.get] <;> rfl, ⟨rfl, fun i h1 h2 => by rw [AHeap.get_set, if_neg h2, AHeap.get_set, if_neg h1]⟩, rfl, ?_⟩
    refine ⟨by rw [AHeap.get_set, if_neg hn2]; exact hb', ?_, ?_, h.ne, fun x hx => h.old x (List.mem_of_mem_eraseIdx hx), h.uniq.sublist ((List.eraseIdx_sublist _ _).map _)⟩
    · rw [AHeap.get_set, if_neg h.ne, AHeap.get_set, if_pos rfl, if_pos lt1, erase_map]
    · rw [AHeap.get_set, if_pos rfl, if_pos (show m2 < (H.set m1 _).next from lt2), erase_map]
end Go.Am.Rn
