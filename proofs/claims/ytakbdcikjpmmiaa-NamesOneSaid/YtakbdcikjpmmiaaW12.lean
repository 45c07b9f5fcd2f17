import Derived.Test.YtakbdcikjpmmiaaW11
import Derived.Sort.KeysCollected
set_option linter.unusedVariables false
set_option linter.unusedSimpArgs false
namespace Go.Am.Rn
open Go.Proofs

/-- What 'All' yields, and the blocks behind it. -/
def allVal (H : AHeap) (L : List (ByteArray × Int)) : AVal := if L = [] then .nils else .sl (H.next + 2 * L.length) 0 L.length none
def allHeap (H : AHeap) (L : List (ByteArray × Int)) : AHeap := if L = [] then skipTo H 1 else (skipTo H (2 * L.length)).push (.cells 9 (L.map fun p => .str p.1))

theorem Same.sorts {A : List Rec} {L : List (ByteArray × Int)} (h : Same A L) {B : List Rec} (hB : B.Perm A) {zs : List ByteArray} (hz : zs.map (·.toList) = ((B.map (·.nm)).map (·.toList)).mergeSort (fun x y => decide (x ≤ y))) : zs.map AVal.str = L.map fun p => AVal.str p.1 := by
  have h1 : ((B.map (·.nm)).map (·.toList)).Perm (L.map fun p => p.1.toList) := by
    have := (hB.map pairOf).trans h.perm
    have h2 := this.map fun p : ByteArray × Int => p.1.toList
    simpa [List.map_map, Function.comp_def, pairOf] using h2
  have h3 : (L.map fun p => p.1.toList).Pairwise fun x y => decide (x ≤ y) = true := by
    rw [List.pairwise_map]
    exact h.sorted.imp fun hlt => by simpa using Std.le_of_lt hlt
  have tr : ∀ a b c : List UInt8, decide (a ≤ b) = true → decide (b ≤ c) = true → decide (a ≤ c) = true := fun a b c h1 h2 => by simp only [decide_eq_true_eq] at *; exact List.le_trans h1 h2
  have to : ∀ a b : List UInt8, (decide (a ≤ b) || decide (b ≤ a)) = true := fun a b => by simp only [Bool.or_eq_true, decide_eq_true_eq]; exact List.le_total a b
  have h4 : ((B.map (·.nm)).map (·.toList)).mergeSort (fun x y => decide (x ≤ y)) = L.map fun p => p.1.toList := by
    refine List.Perm.eq_of_pairwise (le := fun a b => decide (a ≤ b) = true) (fun a b _ _ h1 h2 => ?_) (List.pairwise_mergeSort tr to _) h3 ((List.mergeSort_perm _ _).trans h1)
    simp only [decide_eq_true_eq] at h1 h2
    exact List.le_antisymm h1 h2
  rw [h4] at hz
  have h5 : zs = L.map fun p => p.1 := by
    have : ∀ (u v : List ByteArray), u.map (·.toList) = v.map (·.toList) → u = v := by
      intro u
      induction u with
      | nil => intro v hv; cases v with
        | nil => rfl
        | cons _ _ => cases hv
      | cons a r ih => intro v hv; cases v with
        | nil => cases hv
        | cons b t =>
          simp only [List.map_cons, List.cons.injEq] at hv
          rw [toList_inj hv.1, ih t hv.2]
    exact this _ _ (by rw [hz, List.map_map]; rfl)
  rw [h5, List.map_map]; rfl

theorem all_sub {H H' : AHeap} {L : List (ByteArray × Int)} (hne : L ≠ []) (hn : H'.next = H.next + 1 + 2 * L.length) (hs : ∀ j, j < H.next → H'.get j = H.get j) (hg : H'.get (H.next + 2 * L.length) = some (.cells 9 (L.map fun p => .str p.1))) : Sub (allHeap H L) H' := by
  unfold allHeap
  rw [if_neg hne]
  refine ⟨by rw [push_next, skip_next, hn]; omega, fun i b hb => ?_⟩
  rw [AHeap.get_push, skip_next] at hb
  split at hb
  · rename_i hi; cases hb; rw [hi]; exact hg
  · rw [skip_get] at hb
    rw [hs i (AHeap.get_lt hb)]; exact hb

theorem g12 {H : AHeap} {n : Nat} {A : List Rec} {e : TypeId} {m1 m2 c1 c2 : Nat} (h : NamAt H n A e m1 m2 c1 c2) {L : List (ByteArray × Int)} (hsame : Same A L) (hlen : A.length < 100000) : Det Try.prog 12 [.ptr n 0] H (allVal H L) (allHeap H L) := by
  have hll : A.length = L.length := by have := hsame.perm.length_eq; simpa using this
  have hx := load_cell h.blk (o := 0) (v := .map m1) rfl
  refine ⟨⟨Try.f12, by kernel_rfl, by kernel_rfl, by decide⟩, ?_⟩
  refine CallEv.sub (K := fun r H' => r = allVal H L ∧ Sub (allHeap H L) H') ?_ (fun r H' ⟨e1, e2⟩ => ⟨_, e2, e1, rfl⟩)
  refine CallEv.of_body (fn := Try.f12) (by kernel_rfl) c12 (by simp [f12]) ?_
  unfold f12
  simp only []
  repeat' (first | refine Runs.seq ?_ | refine Runs.block ?_ | refine Runs.skip ?_ | refine Runs.inBlock ?_)
  refine Runs.ops ?_
  simp only [r12_0, DO_nil, DO_cons, OR'_nil, OR'_cons, onW_t, onW_f, onN_v, onN_c, onN_a, onB_t, onB_f, wantedA, astep, Env.val, Env.vals, Env.put, Env.set, Env.get, envFrom, Env.keep, afaddr, aun, AVal.cells, Option.bind_eq_bind, Option.bind_some, Option.pure_def, Nat.reduceEqDiff, Nat.succ_ne_self, if_true, if_false, reduceIte, Option.map_some, List.drop_zero, List.drop_succ_cons, List.length_cons, List.length_nil, Nat.reduceAdd, Nat.reduceLeDiff, Nat.zero_le, Nat.le_refl, List.getElem?_cons_zero, List.getElem?_cons_succ, beq_self_eq_true, Bool.false_eq_true, aundef, Nat.zero_add, Nat.add_zero, Bool.not_true, Bool.not_false, Bool.xor_false, Bool.false_xor, Bool.true_xor, Bool.xor_true, and_self, true_and, and_true]
  repeat' (first | refine Runs.seq ?_ | refine Runs.block ?_ | refine Runs.skip ?_ | refine Runs.inBlock ?_)
  refine Runs.ops ?_
  simp only [r12_1, DO_nil, DO_cons, OR'_nil, OR'_cons, onW_t, onW_f, onN_v, onN_c, onN_a, onB_t, onB_f, wantedA, astep, Env.val, Env.vals, Env.put, Env.set, Env.get, envFrom, Env.keep, afaddr, aun, AVal.cells, Option.bind_eq_bind, Option.bind_some, Option.pure_def, Nat.reduceEqDiff, Nat.succ_ne_self, if_true, if_false, reduceIte, Option.map_some, List.drop_zero, List.drop_succ_cons, List.length_cons, List.length_nil, Nat.reduceAdd, Nat.reduceLeDiff, Nat.zero_le, Nat.le_refl, List.getElem?_cons_zero, List.getElem?_cons_succ, beq_self_eq_true, Bool.false_eq_true, aundef, Nat.zero_add, Nat.add_zero, Bool.not_true, Bool.not_false, Bool.xor_false, Bool.false_xor, Bool.true_xor, Bool.xor_true, and_self, true_and, and_true]
  repeat' (first | refine Runs.seq ?_ | refine Runs.block ?_ | refine Runs.skip ?_ | refine Runs.inBlock ?_)
  refine Runs.ops ?_
  simp only [r12_2, DO_nil, DO_cons, OR'_nil, OR'_cons, onW_t, onW_f, onN_v, onN_c, onN_a, onB_t, onB_f, wantedA, astep, Env.val, Env.vals, Env.put, Env.set, Env.get, envFrom, Env.keep, afaddr, aun, AVal.cells, Option.bind_eq_bind, Option.bind_some, Option.pure_def, Nat.reduceEqDiff, Nat.succ_ne_self, if_true, if_false, reduceIte, Option.map_some, List.drop_zero, List.drop_succ_cons, List.length_cons, List.length_nil, Nat.reduceAdd, Nat.reduceLeDiff, Nat.zero_le, Nat.le_refl, List.getElem?_cons_zero, List.getElem?_cons_succ, beq_self_eq_true, Bool.false_eq_true, aundef, Nat.zero_add, Nat.add_zero, Bool.not_true, Bool.not_false, Bool.xor_false, Bool.false_xor, Bool.true_xor, Bool.xor_true, and_self, true_and, and_true, hx, h.mp1]
  repeat' (first | refine Runs.seq ?_ | refine Runs.block ?_ | refine Runs.skip ?_ | refine Runs.inBlock ?_)
  refine Runs.loop ?_
  refine loop12 h hlen ?_ A.length [] A .nils _ rfl (by simp) (.inl ⟨rfl, rfl⟩) (by simp [push_next]) (fun j hj => by rw [AHeap.get_push, if_neg (by omega)]) (by rw [AHeap.get_push, if_pos rfl]; rfl)
  intro B x H1 hB hg hn hs
  repeat' (first | refine Runs.seq ?_ | refine Runs.block ?_ | refine Runs.skip ?_ | refine Runs.inBlock ?_)
  refine Runs.ops ?_
  rcases hg with ⟨rfl, hus⟩ | ⟨rfl, hne, hown⟩
  · have hB0 : B = [] := by simpa using hus
    subst hB0
    have hA0 : A = [] := hB.symm.eq_nil
    have hL0 : L = [] := List.length_eq_zero_iff.mp (by rw [← hll, hA0]; rfl)
    simp only [r12_6, DO_nil, DO_cons, OR'_nil, OR'_cons, onW_t, onW_f, onN_v, onN_c, onN_a, onB_t, onB_f, wantedA, astep, Env.val, Env.vals, Env.put, Env.set, Env.get, envFrom, Env.keep, afaddr, aun, AVal.cells, Option.bind_eq_bind, Option.bind_some, Option.pure_def, Nat.reduceEqDiff, Nat.succ_ne_self, if_true, if_false, reduceIte, Option.map_some, List.drop_zero, List.drop_succ_cons, List.length_cons, List.length_nil, Nat.reduceAdd, Nat.reduceLeDiff, Nat.zero_le, Nat.le_refl, List.getElem?_cons_zero, List.getElem?_cons_succ, beq_self_eq_true, Bool.false_eq_true, aundef, Nat.zero_add, Nat.add_zero, Bool.not_true, Bool.not_false, Bool.xor_false, Bool.false_xor, Bool.true_xor, Bool.xor_true, and_self, true_and, and_true]
    refine ⟨call19, (sort19_none H1).mono ?_⟩
    rintro r H2 ⟨rfl, rfl⟩
    simp only [DO_nil, DO_cons, OR'_nil, OR'_cons, onW_t, onW_f, onN_v, onN_c, onN_a, onB_t, onB_f, wantedA, astep, Env.val, Env.vals, Env.put, Env.set, Env.get, envFrom, Env.keep, afaddr, aun, AVal.cells, Option.bind_eq_bind, Option.bind_some, Option.pure_def, Nat.reduceEqDiff, Nat.succ_ne_self, if_true, if_false, reduceIte, Option.map_some, List.drop_zero, List.drop_succ_cons, List.length_cons, List.length_nil, Nat.reduceAdd, Nat.reduceLeDiff, Nat.zero_le, Nat.le_refl, List.getElem?_cons_zero, List.getElem?_cons_succ, beq_self_eq_true, Bool.false_eq_true, aundef, Nat.zero_add, Nat.add_zero, Bool.not_true, Bool.not_false, Bool.xor_false, Bool.false_xor, Bool.true_xor, Bool.xor_true, and_self, true_and, and_true]
    repeat' (first | refine Runs.seq ?_ | refine Runs.block ?_ | refine Runs.skip ?_ | refine Runs.inBlock ?_)
    refine Runs.ops ?_
    simp only [r12_7, DO_nil, DO_cons, OR'_nil, OR'_cons, onW_t, onW_f, onN_v, onN_c, onN_a, onB_t, onB_f, wantedA, astep, Env.val, Env.vals, Env.put, Env.set, Env.get, envFrom, Env.keep, afaddr, aun, AVal.cells, Option.bind_eq_bind, Option.bind_some, Option.pure_def, Nat.reduceEqDiff, Nat.succ_ne_self, if_true, if_false, reduceIte, Option.map_some, List.drop_zero, List.drop_succ_cons, List.length_cons, List.length_nil, Nat.reduceAdd, Nat.reduceLeDiff, Nat.zero_le, Nat.le_refl, List.getElem?_cons_zero, List.getElem?_cons_succ, beq_self_eq_true, Bool.false_eq_true, aundef, Nat.zero_add, Nat.add_zero, Bool.not_true, Bool.not_false, Bool.xor_false, Bool.false_xor, Bool.true_xor, Bool.xor_true, and_self, true_and, and_true]
    refine Runs.ret ⟨_, by simp [aresult, ares, Env.get] <;> rfl, by simp [allVal, hL0], ?_⟩
    subst hL0
    simp only [allHeap, if_true]
    refine ⟨by rw [skip_next, hn, hA0]; rfl, fun i b hb => ?_⟩
    rw [skip_get] at hb
    rw [hs i (AHeap.get_lt hb)]; exact hb
  · have hBl := hB.length_eq
    have hLne : L ≠ [] := by
      intro e0
      rw [e0] at hll
      have : B = [] := List.length_eq_zero_iff.mp (by rw [hBl, hll]; rfl)
      exact hne (by rw [this]; rfl)
    have hown' : H1.get (H.next + 2 * A.length) = some (.cells 9 ((B.map (·.nm)).map .str)) := by rw [hown, List.map_map]; rfl
    have hcall := sort19 (cap := none) hown' (by simp; omega)
    rw [List.length_map] at hcall
    simp only [r12_6, DO_nil, DO_cons, OR'_nil, OR'_cons, onW_t, onW_f, onN_v, onN_c, onN_a, onB_t, onB_f, wantedA, astep, Env.val, Env.vals, Env.put, Env.set, Env.get, envFrom, Env.keep, afaddr, aun, AVal.cells, Option.bind_eq_bind, Option.bind_some, Option.pure_def, Nat.reduceEqDiff, Nat.succ_ne_self, if_true, if_false, reduceIte, Option.map_some, List.drop_zero, List.drop_succ_cons, List.length_cons, List.length_nil, Nat.reduceAdd, Nat.reduceLeDiff, Nat.zero_le, Nat.le_refl, List.getElem?_cons_zero, List.getElem?_cons_succ, beq_self_eq_true, Bool.false_eq_true, aundef, Nat.zero_add, Nat.add_zero, Bool.not_true, Bool.not_false, Bool.xor_false, Bool.false_xor, Bool.true_xor, Bool.xor_true, and_self, true_and, and_true]
    rw [List.length_map]
    refine ⟨call19, hcall.mono ?_⟩
    rintro r H2 ⟨rfl, zs, hz, rfl⟩
    have hz' := hsame.sorts hB hz
    simp only [DO_nil, DO_cons, OR'_nil, OR'_cons, onW_t, onW_f, onN_v, onN_c, onN_a, onB_t, onB_f, wantedA, astep, Env.val, Env.vals, Env.put, Env.set, Env.get, envFrom, Env.keep, afaddr, aun, AVal.cells, Option.bind_eq_bind, Option.bind_some, Option.pure_def, Nat.reduceEqDiff, Nat.succ_ne_self, if_true, if_false, reduceIte, Option.map_some, List.drop_zero, List.drop_succ_cons, List.length_cons, List.length_nil, Nat.reduceAdd, Nat.reduceLeDiff, Nat.zero_le, Nat.le_refl, List.getElem?_cons_zero, List.getElem?_cons_succ, beq_self_eq_true, Bool.false_eq_true, aundef, Nat.zero_add, Nat.add_zero, Bool.not_true, Bool.not_false, Bool.xor_false, Bool.false_xor, Bool.true_xor, Bool.xor_true, and_self, true_and, and_true]
    repeat' (first | refine Runs.seq ?_ | refine Runs.block ?_ | refine Runs.skip ?_ | refine Runs.inBlock ?_)
    refine Runs.ops ?_
    simp only [r12_7, DO_nil, DO_cons, OR'_nil, OR'_cons, onW_t, onW_f, onN_v, onN_c, onN_a, onB_t, onB_f, wantedA, astep, Env.val, Env.vals, Env.put, Env.set, Env.get, envFrom, Env.keep, afaddr, aun, AVal.cells, Option.bind_eq_bind, Option.bind_some, Option.pure_def, Nat.reduceEqDiff, Nat.succ_ne_self, if_true, if_false, reduceIte, Option.map_some, List.drop_zero, List.drop_succ_cons, List.length_cons, List.length_nil, Nat.reduceAdd, Nat.reduceLeDiff, Nat.zero_le, Nat.le_refl, List.getElem?_cons_zero, List.getElem?_cons_succ, beq_self_eq_true, Bool.false_eq_true, aundef, Nat.zero_add, Nat.add_zero, Bool.not_true, Bool.not_false, Bool.xor_false, Bool.false_xor, Bool.true_xor, Bool.xor_true, and_self, true_and, and_true]
    refine Runs.ret ⟨_, by simp [aresult, ares, Env.get] <;> rfl, ?_, ?_⟩
    · simp only [allVal, if_neg hLne]; rw [hBl, hll]
    · refine all_sub hLne (by rw [set_next, hn, hll]) (fun j hj => by rw [AHeap.get_set, if_neg (by omega), hs j hj]) ?_
      rw [AHeap.get_set, if_pos (by rw [hll]), if_pos (by omega), hz']
end Go.Am.Rn
