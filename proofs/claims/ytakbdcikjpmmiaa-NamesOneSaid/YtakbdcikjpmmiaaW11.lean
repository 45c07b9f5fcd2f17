import Derived.Test.YtakbdcikjpmmiaaW10
import Derived.Shelf.Slices.In.SortNone
set_option linter.unusedVariables false
set_option linter.unusedSimpArgs false
namespace Go.Am
open Go.Proofs Go.Sort Go.RowKit

/-- Names of blocks passed by. -/
def skipTo (H : AHeap) : Nat → AHeap
  | 0 => H
  | n + 1 => ((skipTo H n).push (.siter ⟨#[]⟩ 0)).del (skipTo H n).next
theorem skip_next (H : AHeap) : ∀ n, (skipTo H n).next = H.next + n
  | 0 => rfl
  | n + 1 => by
    show (skipTo H n).next + 1 = _
    rw [skip_next H n]; omega
theorem get_none {H : AHeap} {i : Nat} (h : H.next ≤ i) : H.get i = none := by
  unfold AHeap.get; rw [if_neg (by omega)]
theorem skip_get (H : AHeap) (i : Nat) : ∀ n, (skipTo H n).get i = H.get i
  | 0 => rfl
  | n + 1 => by
    show (((skipTo H n).push _).del _).get i = _
    rw [AHeap.get_del, AHeap.get_push]
    by_cases h : i = (skipTo H n).next
    · rw [if_pos h, get_none (by rw [skip_next] at h; omega)]
    · rw [if_neg h, if_neg h, skip_get H i n]

theorem anext_none {es : List AEntry} {since : Nat} {seen : List Nat} (h : none ∈ anext es since seen) : ∀ e ∈ es, e.born < since → e.born ∈ seen := by
  intro e he hb
  simp only [anext] at h
  rw [List.mem_append] at h
  rcases h with h | h
  · split at h
    · rename_i hem
      apply Classical.byContradiction
      intro hn
      have : e ∈ (es.filter fun e => !seen.contains e.born).filter fun e => decide (e.born < since) := by
        rw [List.mem_filter, List.mem_filter]
        exact ⟨⟨he, by simpa using hn⟩, by simpa using hb⟩
      rw [List.isEmpty_iff.mp hem] at this; cases this
    · cases h
  · simp at h
theorem anext_some {es : List AEntry} {since : Nat} {seen : List Nat} {e : AEntry} (h : some e ∈ anext es since seen) : e ∈ es ∧ e.born ∉ seen := by
  simp only [anext] at h
  rw [List.mem_append] at h
  rcases h with h | h
  · split at h <;> simp at h
  · rw [List.mem_map] at h
    obtain ⟨e', h, he⟩ := h
    cases he
    rw [List.mem_append, List.mem_filter, List.mem_filter] at h
    have : e ∈ es.filter fun e => !seen.contains e.born := by
      rw [List.mem_filter]
      rcases h with h | h
      · exact h.1
      · exact List.mem_filter.mp (List.mem_filter.mp h).1
    rw [List.mem_filter] at this
    exact ⟨this.1, by simpa using this.2⟩
end Go.Am

namespace Go.Am.Rn
open Go.Proofs

theorem find_ent {A : List Rec} (hd : (A.map (·.b1)).Nodup) {a : Rec} (ha : a ∈ A) : (A.map ent1).find? (fun e => e.born == a.b1) = some (ent1 a) := by
  induction A with
  | nil => cases ha
  | cons b r ih =>
    simp only [List.map_cons, List.nodup_cons] at hd
    simp only [List.map_cons, List.find?_cons]
    rcases List.mem_cons.mp ha with e | ha
    · subst e; simp [ent1]
    · have hne : ¬ b.b1 = a.b1 := fun e => hd.1 (by rw [e]; exact List.mem_map.mpr ⟨a, ha, rfl⟩)
      have : ((ent1 b).born == a.b1) = false := by simpa [ent1] using hne
      rw [this]; exact ih hd.2 ha

/-- A row under way: none, or its own. -/
def Grown (H : AHeap) (x : AVal) (us : List AVal) (last : Nat) : Prop := (x = .nils ∧ us = []) ∨ (x = .sl last 0 us.length none ∧ us ≠ [] ∧ H.get last = some (.cells 9 us))

theorem loop12 {H0 : AHeap} {n : Nat} {A : List Rec} {e : TypeId} {m1 m2 c1 c2 : Nat} (h : NamAt H0 n A e m1 m2 c1 c2) (hlen : A.length < 100000) {k : List AItem} {K : Env → AHeap → Prop}
    (hk : ∀ (B : List Rec) (x : AVal) (H : AHeap), B.Perm A → Grown H x (B.map fun a => .str a.nm) (H0.next + 2 * A.length) → H.next = H0.next + 1 + 2 * A.length → (∀ j, j < H0.next → H.get j = H0.get j) → Runs Try.prog (kof k12) 21 k [(3, x)] H K) :
    ∀ (d : Nat) (B R : List Rec) (x : AVal) (H : AHeap), R.length = d → (B ++ R).Perm A → Grown H x (B.map fun a => .str a.nm) (H0.next + 2 * B.length) → H.next = H0.next + 1 + 2 * B.length → (∀ j, j < H0.next → H.get j = H0.get j) →
      H.get H0.next = some (.miter m1 c1 (B.map (·.b1)) c1) → Runs Try.prog (kof k12) 21 (.code l12_0 :: .inLoop l12_0 :: .inBlock 0 :: k) [(3, x), (9, .ptr H0.next 0)] H K := by
  intro d
  induction d using Nat.strongRecOn with
  | ind d ih =>
    intro B R x H hR hp hg hn hs hit
    have hm1 : H.get m1 = some (.map (A.map ent1) c1) := (hs m1 (AHeap.get_lt h.mp1)).trans h.mp1
    have hnodup : ((B ++ R).map (·.b1)).Nodup := (hp.map _).nodup_iff.mpr h.uniq
    have hnx : anextM H (.ptr H0.next 0) = some (.anyOf ((anext (A.map ent1) c1 (B.map (·.b1))).map (anextTo H H0.next m1 c1 (B.map (·.b1)) c1))) := by
      simp only [anextM, hit, hm1]
      rw [if_neg]
      intro hh
      simp only [Bool.and_eq_true, Bool.not_eq_true', List.all_eq_true] at hh
      obtain ⟨⟨_, h2⟩, h3⟩ := hh
      cases A with
      | nil => simp at h2
      | cons a r =>
        have h4 : c1 ≤ a.b1 := of_decide_eq_true (h3 (ent1 a) (by simp))
        have h5 := (h.old a List.mem_cons_self).1
        omega
    repeat' (first | refine Runs.seq ?_ | refine Runs.block ?_ | refine Runs.skip ?_ | refine Runs.inBlock ?_)
    refine Runs.ops ?_
    simp only [r12_3, DO_nil, DO_cons, OR'_nil, OR'_cons, onW_t, onW_f, onN_v, onN_c, onN_a, onB_t, onB_f, wantedA, astep, Env.val, Env.vals, Env.put, Env.set, Env.get, envFrom, Env.keep, afaddr, aun, AVal.cells, Option.bind_eq_bind, Option.bind_some, Option.pure_def, Nat.reduceEqDiff, Nat.succ_ne_self, if_true, if_false, reduceIte, Option.map_some, List.drop_zero, List.drop_succ_cons, List.length_cons, List.length_nil, Nat.reduceAdd, Nat.reduceLeDiff, Nat.zero_le, Nat.le_refl, List.getElem?_cons_zero, List.getElem?_cons_succ, beq_self_eq_true, Bool.false_eq_true, aundef, Nat.zero_add, Nat.add_zero, Bool.not_true, Bool.not_false, Bool.xor_false, Bool.false_xor, Bool.true_xor, Bool.xor_true, and_self, true_and, and_true, hnx]
    intro p hp'
    obtain ⟨o, ho, rfl⟩ := List.mem_map.mp hp'
    cases o with
    | none =>
      have hRnil : R = [] := by
        cases R with
        | nil => rfl
        | cons q R' =>
          exfalso
          have hqA : q ∈ A := hp.mem_iff.mp (by simp)
          have := anext_none ho (ent1 q) (List.mem_map.mpr ⟨q, hqA, rfl⟩) (h.old q hqA).1
          rw [List.map_append, List.nodup_append] at hnodup
          exact hnodup.2.2 _ this _ (by simp [ent1]) rfl
      subst hRnil
      rw [List.append_nil] at hp
      simp only [anextTo, DO_nil, DO_cons, OR'_nil, OR'_cons, onW_t, onW_f, onN_v, onN_c, onN_a, onB_t, onB_f, wantedA, astep, Env.val, Env.vals, Env.put, Env.set, Env.get, envFrom, Env.keep, afaddr, aun, AVal.cells, Option.bind_eq_bind, Option.bind_some, Option.pure_def, Nat.reduceEqDiff, Nat.succ_ne_self, if_true, if_false, reduceIte, Option.map_some, List.drop_zero, List.drop_succ_cons, List.length_cons, List.length_nil, Nat.reduceAdd, Nat.reduceLeDiff, Nat.zero_le, Nat.le_refl, List.getElem?_cons_zero, List.getElem?_cons_succ, beq_self_eq_true, Bool.false_eq_true, aundef, Nat.zero_add, Nat.add_zero, Bool.not_true, Bool.not_false, Bool.xor_false, Bool.false_xor, Bool.true_xor, Bool.xor_true, and_self, true_and, and_true]
      repeat' (first | refine Runs.seq ?_ | refine Runs.block ?_ | refine Runs.skip ?_ | refine Runs.inBlock ?_)
      refine Runs.no rfl ?_
      refine Runs.exit rfl ?_
      refine Runs.only [3] ?_
      have hl := hp.length_eq
      rw [hl] at hg hn
      exact hk B x H hp hg hn hs
    | some en =>
      obtain ⟨hen, hnot⟩ := anext_some ho
      obtain ⟨a, haA, rfl⟩ := List.mem_map.mp hen
      have haR : a ∈ R := by
        have := hp.mem_iff.mpr haA
        rcases List.mem_append.mp this with hh | hh
        · exact absurd (List.mem_map.mpr ⟨a, hh, rfl⟩) hnot
        · exact hh
      obtain ⟨R1, R2, rfl⟩ := List.append_of_mem haR
      obtain ⟨H1, hH1⟩ : ∃ H1, H1 = H.set H0.next (.miter m1 c1 (B.map (·.b1) ++ [a.b1]) c1) := ⟨_, rfl⟩
      have g1 : H1.get H0.next = some (.miter m1 c1 (B.map (·.b1) ++ [a.b1]) c1) := by rw [hH1, AHeap.get_set, if_pos rfl, if_pos (by omega)]
      have n1 : H1.next = H.next := by rw [hH1]; rfl
      have o1 : ∀ j, j ≠ H0.next → H1.get j = H.get j := fun j hj => by rw [hH1, AHeap.get_set, if_neg hj]
      have hm1' : H1.get m1 = some (.map (A.map ent1) c1) := (o1 m1 (by have := AHeap.get_lt h.mp1; omega)).trans hm1
      have hent : aentM H1 (.ptr H0.next 0) = some (.tup [.str a.nm, .int .i64 a.pid]) := by
        simp only [aentM, g1, hm1', List.getLast?_append, List.getLast?_singleton, Option.some_or, if_true, find_ent h.uniq haA]
        rfl
      have hanx : anextTo H H0.next m1 c1 (B.map (·.b1)) c1 (some (ent1 a)) = (.tup [.bool true, .str a.nm, .int .i64 a.pid], H1) := by rw [hH1]; rfl
      simp only [hanx, DO_nil, DO_cons, OR'_nil, OR'_cons, onW_t, onW_f, onN_v, onN_c, onN_a, onB_t, onB_f, wantedA, astep, Env.val, Env.vals, Env.put, Env.set, Env.get, envFrom, Env.keep, afaddr, aun, AVal.cells, Option.bind_eq_bind, Option.bind_some, Option.pure_def, Nat.reduceEqDiff, Nat.succ_ne_self, if_true, if_false, reduceIte, Option.map_some, List.drop_zero, List.drop_succ_cons, List.length_cons, List.length_nil, Nat.reduceAdd, Nat.reduceLeDiff, Nat.zero_le, Nat.le_refl, List.getElem?_cons_zero, List.getElem?_cons_succ, beq_self_eq_true, Bool.false_eq_true, aundef, Nat.zero_add, Nat.add_zero, Bool.not_true, Bool.not_false, Bool.xor_false, Bool.false_xor, Bool.true_xor, Bool.xor_true, and_self, true_and, and_true]
      repeat' (first | refine Runs.seq ?_ | refine Runs.block ?_ | refine Runs.skip ?_ | refine Runs.inBlock ?_)
      refine Runs.yes rfl ?_
      repeat' (first | refine Runs.seq ?_ | refine Runs.block ?_ | refine Runs.skip ?_ | refine Runs.inBlock ?_)
      refine Runs.ops ?_
      simp only [r12_4, DO_nil, DO_cons, OR'_nil, OR'_cons, onW_t, onW_f, onN_v, onN_c, onN_a, onB_t, onB_f, wantedA, astep, Env.val, Env.vals, Env.put, Env.set, Env.get, envFrom, Env.keep, afaddr, aun, AVal.cells, Option.bind_eq_bind, Option.bind_some, Option.pure_def, Nat.reduceEqDiff, Nat.succ_ne_self, if_true, if_false, reduceIte, Option.map_some, List.drop_zero, List.drop_succ_cons, List.length_cons, List.length_nil, Nat.reduceAdd, Nat.reduceLeDiff, Nat.zero_le, Nat.le_refl, List.getElem?_cons_zero, List.getElem?_cons_succ, beq_self_eq_true, Bool.false_eq_true, aundef, Nat.zero_add, Nat.add_zero, Bool.not_true, Bool.not_false, Bool.xor_false, Bool.false_xor, Bool.true_xor, Bool.xor_true, and_self, true_and, and_true, hent]
      repeat' (first | refine Runs.seq ?_ | refine Runs.block ?_ | refine Runs.skip ?_ | refine Runs.inBlock ?_)
      refine Runs.ops ?_
      have hgo : ∀ (x' : AVal) (H' : AHeap), Grown H' x' ((B ++ [a]).map fun a => .str a.nm) (H0.next + 2 * (B ++ [a]).length) → H'.next = H.next + 2 → (∀ j, j < H0.next + 1 → H'.get j = H1.get j) →
          Runs Try.prog (kof k12) 21 (.inLoop l12_0 :: .inBlock 0 :: k) [(3, x'), (9, .ptr H0.next 0)] H' K := by
        intro x' H' q1 q2 q3
        refine Runs.inLoop ?_
        refine ih (R1 ++ R2).length (by rw [← hR]; simp) (B ++ [a]) (R1 ++ R2) x' H' rfl ?_ q1 ?_ ?_ ?_
        · refine List.Perm.trans ?_ hp
          rw [List.append_assoc]
          exact List.Perm.append_left B (show (a :: (R1 ++ R2)).Perm (R1 ++ a :: R2) from List.perm_middle.symm)
        · rw [q2, hn]; simp; omega
        · intro j hj
          rw [q3 j (by omega), o1 j (by omega), hs j hj]
        · rw [q3 _ (by omega), g1, List.map_append]; rfl
      rcases hg with ⟨rfl, hus⟩ | ⟨rfl, hne, hown⟩
      · have hB : B = [] := by simpa using hus
        subst hB
        have happ : aapp 9 1 16 (H1.push (.cells 9 [.str a.nm])) .nils (.sl H1.next 0 1 (some 1)) = some (.sl (H1.next + 1) 0 1 none, (H1.push (.cells 9 [.str a.nm])).push (.cells 9 [.str a.nm])) := by
          simp [aapp, alen, sliceCells, AHeap.get_push, ones, AVal.one, push_next]
        simp only [r12_5, DO_nil, DO_cons, OR'_nil, OR'_cons, onW_t, onW_f, onN_v, onN_c, onN_a, onB_t, onB_f, wantedA, astep, Env.val, Env.vals, Env.put, Env.set, Env.get, envFrom, Env.keep, afaddr, aun, AVal.cells, Option.bind_eq_bind, Option.bind_some, Option.pure_def, Nat.reduceEqDiff, Nat.succ_ne_self, if_true, if_false, reduceIte, Option.map_some, List.drop_zero, List.drop_succ_cons, List.length_cons, List.length_nil, Nat.reduceAdd, Nat.reduceLeDiff, Nat.zero_le, Nat.le_refl, List.getElem?_cons_zero, List.getElem?_cons_succ, beq_self_eq_true, Bool.false_eq_true, aundef, Nat.zero_add, Nat.add_zero, Bool.not_true, Bool.not_false, Bool.xor_false, Bool.false_xor, Bool.true_xor, Bool.xor_true, and_self, true_and, and_true, Env.parts, afill, List.take_zero, List.nil_append, List.append_nil, List.drop_nil, happ]
        repeat' (first | refine Runs.seq ?_ | refine Runs.block ?_ | refine Runs.skip ?_ | refine Runs.inBlock ?_)
        refine hgo _ _ (.inr ⟨?_, by simp, ?_⟩) ?_ ?_
        · simp only [List.nil_append, List.map_cons, List.map_nil, List.length_cons, List.length_nil] at hn ⊢
          rw [n1, hn]
        · simp only [List.nil_append, List.map_cons, List.map_nil, List.length_cons, List.length_nil] at hn ⊢
          rw [AHeap.get_push, if_pos (by rw [push_next, n1, hn])]
        · rw [push_next, push_next, n1]
        · intro j hj
          rw [AHeap.get_push, if_neg (by rw [push_next, n1]; omega), AHeap.get_push, if_neg (by rw [n1]; omega)]
      · have hlt : H0.next + 2 * B.length < H.next := by omega
        have hpos : 0 < B.length := by
          rcases Nat.eq_zero_or_pos B.length with h0 | h0
          · exact absurd (by rw [List.length_eq_zero_iff.mp h0]; rfl) hne
          · exact h0
        have ownH : Own H1 9 (.sl (H0.next + 2 * B.length) 0 (B.map fun a => AVal.str a.nm).length none) (B.map fun a => AVal.str a.nm) := ⟨_, .inr ⟨rfl, (o1 _ (by omega)).trans hown⟩⟩
        have own2 : Own (H1.push (.cells 9 [.str a.nm])) 9 (.sl (H0.next + 2 * B.length) 0 (B.map fun a => AVal.str a.nm).length none) (B.map fun a => AVal.str a.nm) := ownH.frame fun id hid => by rw [AHeap.get_push, if_neg (by have := ownH.lt hid; omega)]
        have hBl : B.length ≤ A.length := by have := hp.length_eq; simp at this; omega
        have happ : aapp 9 1 16 (H1.push (.cells 9 [.str a.nm])) (.sl (H0.next + 2 * B.length) 0 (B.map fun a => AVal.str a.nm).length none) (.sl H1.next 0 1 (some 1)) = some (.sl (H1.next + 1) 0 ((B.map fun a => AVal.str a.nm).length + 1) none, ((H1.push (.cells 9 [.str a.nm])).del (H0.next + 2 * B.length)).push (.cells 9 ((B.map fun a => AVal.str a.nm) ++ [.str a.nm]))) := by
          have hget : (H1.push (.cells 9 [.str a.nm])).get (H0.next + 2 * B.length) = some (.cells 9 (B.map fun a => AVal.str a.nm)) := by
            rw [AHeap.get_push, if_neg (by omega)]; exact (o1 _ (by omega)).trans hown
          have hg2 : (H1.push (.cells 9 [.str a.nm])).get H1.next = some (.cells 9 [.str a.nm]) := by rw [AHeap.get_push, if_pos rfl]
          simp only [aapp, alen, sliceCells, hg2, hget]
          simp [ones, AVal.one, push_next, del_next]
          refine ⟨by omega, ?_⟩
          rw [if_neg (by omega)]
          simp
          rw [List.take_of_length_le (by simp)]
        simp only [r12_5, DO_nil, DO_cons, OR'_nil, OR'_cons, onW_t, onW_f, onN_v, onN_c, onN_a, onB_t, onB_f, wantedA, astep, Env.val, Env.vals, Env.put, Env.set, Env.get, envFrom, Env.keep, afaddr, aun, AVal.cells, Option.bind_eq_bind, Option.bind_some, Option.pure_def, Nat.reduceEqDiff, Nat.succ_ne_self, if_true, if_false, reduceIte, Option.map_some, List.drop_zero, List.drop_succ_cons, List.length_cons, List.length_nil, Nat.reduceAdd, Nat.reduceLeDiff, Nat.zero_le, Nat.le_refl, List.getElem?_cons_zero, List.getElem?_cons_succ, beq_self_eq_true, Bool.false_eq_true, aundef, Nat.zero_add, Nat.add_zero, Bool.not_true, Bool.not_false, Bool.xor_false, Bool.false_xor, Bool.true_xor, Bool.xor_true, and_self, true_and, and_true, Env.parts, afill, List.take_zero, List.nil_append, List.append_nil, List.drop_nil, happ]
        repeat' (first | refine Runs.seq ?_ | refine Runs.block ?_ | refine Runs.skip ?_ | refine Runs.inBlock ?_)
        refine hgo _ _ (.inr ⟨?_, by simp, ?_⟩) ?_ ?_
        · rw [n1, hn]; simp; omega
        · rw [AHeap.get_push, if_pos (by rw [del_next, push_next, n1, hn]; simp; omega)]; simp
        · rw [push_next, del_next, push_next, n1]
        · intro j hj
          rw [AHeap.get_push, if_neg (by rw [del_next, push_next, n1]; omega), AHeap.get_del, if_neg (by omega), AHeap.get_push, if_neg (by rw [n1]; omega)]

theorem sort19 {H : AHeap} {id : Nat} {e : TypeId} {ss : List ByteArray} {cap : Option Nat} (hid : H.get id = some (.cells e (ss.map .str))) (hl : ss.length < 4611686018427387904) :
    CallEv Try.prog 19 [.sl id 0 ss.length cap] H fun r H' => r = .tup [] ∧ ∃ zs : List ByteArray, zs.map (·.toList) = (ss.map (·.toList)).mergeSort (fun x y => decide (x ≤ y)) ∧ H' = H.set id (.cells e (zs.map .str)) := sort_call Try.laysSort hid hl
theorem call19 : Callable Try.prog 19 := ⟨Try.f19, by kernel_rfl, by kernel_rfl, by decide⟩
theorem sort19_none (H : AHeap) : CallEv Try.prog 19 [.nils] H fun r H' => r = .tup [] ∧ H' = H := by
  intro w ro μ argv hg ha
  obtain ⟨u, rest, h1, h2, h3⟩ := ha
  simp only [VRs] at h3
  simp only [VR] at h2
  subst h3; subst h2
  have hargv : argv = #[.slice none 0 0] := Array.ext' (by rw [h1])
  rw [hargv]
  refine (Any.slices_Sort_string_none Try.laysSort none 0 w).mono ?_
  rintro ev w' ⟨rfl, rfl⟩
  exact ⟨_, .tup [], H, ro, μ, rfl, ⟨rfl, rfl⟩, ⟨#[], rfl, rfl⟩, hg, Out.refl _ _ _ _⟩
end Go.Am.Rn
