/- The two ways to tell a kept word tell the same. -/
import Derived.Test.YtmoimchdhgoeeaaDoorFn2
import Derived.Test.YtmoimchdhgoeeaaDoorAm34
set_option linter.unusedVariables false
set_option linter.unusedSimpArgs false
namespace Go.Am.Rl
open Go.Proofs

def kept (s : ByteArray) : Bool := (s.toList == (⟨#[97, 102, 116, 101, 114]⟩ : ByteArray).toList) || (s.toList == (⟨#[97, 110, 100, 97, 108, 115, 111]⟩ : ByteArray).toList) || (s.toList == (⟨#[98, 101, 103, 105, 110]⟩ : ByteArray).toList) || (s.toList == (⟨#[99, 97, 115, 101]⟩ : ByteArray).toList) || (s.toList == (⟨#[99, 97, 116, 99, 104]⟩ : ByteArray).toList) || (s.toList == (⟨#[100, 105, 118]⟩ : ByteArray).toList) || (s.toList == (⟨#[101, 110, 100]⟩ : ByteArray).toList) || (s.toList == (⟨#[102, 117, 110]⟩ : ByteArray).toList) || (s.toList == (⟨#[110, 111, 116]⟩ : ByteArray).toList) || (s.toList == (⟨#[111, 102]⟩ : ByteArray).toList) || (s.toList == (⟨#[111, 114, 101, 108, 115, 101]⟩ : ByteArray).toList) || (s.toList == (⟨#[114, 101, 99, 101, 105, 118, 101]⟩ : ByteArray).toList) || (s.toList == (⟨#[114, 101, 109]⟩ : ByteArray).toList) || (s.toList == (⟨#[116, 114, 121]⟩ : ByteArray).toList) || (s.toList == (⟨#[119, 104, 101, 110]⟩ : ByteArray).toList)

theorem g13 {H : AHeap} (s : ByteArray) : DCall Tryd.prog 13 [.str s] H fun a H' => H' = H ∧ a = .bool (kept s) := by
  refine DCall.of_body (fn := Tryd.f13) (by kernel_rfl) c13 (by kernel_rfl) (by simp [f13]) ?_
  unfold f13
  simp only []
  refine DR.nm rfl ?_
  refine DR.ops ?_
  simp -dsimp only [r13_0, SZ, wantedA, astep, Env.val, Env.vals, Env.put, Env.set, Env.get, envFrom, Env.keep, afaddr, aun, AVal.cells, aundef, if_true, if_false, reduceIte, beq_self_eq_true, Nat.reduceEqDiff, Nat.reduceAdd, Nat.reduceLeDiff]
  refine DR.nm rfl ?_
  refine DR.ops ?_
  simp -dsimp only [r13_1, SZ, wantedA, astep, Env.val, Env.vals, Env.put, Env.set, Env.get, envFrom, Env.keep, afaddr, aun, AVal.cells, aundef, if_true, if_false, reduceIte, beq_self_eq_true, Nat.reduceEqDiff, Nat.reduceAdd, Nat.reduceLeDiff]
  refine DR.nm rfl ?_
  refine DR.ops ?_
  simp -dsimp only [r13_2, SZ, wantedA, astep, Env.val, Env.vals, Env.put, Env.set, Env.get, envFrom, Env.keep, afaddr, aun, AVal.cells, aundef, if_true, if_false, reduceIte, beq_self_eq_true, Nat.reduceEqDiff, Nat.reduceAdd, Nat.reduceLeDiff, abin]
  by_cases h0 : (s.toList == (⟨#[97, 102, 116, 101, 114]⟩ : ByteArray).toList) = true
  · rw [h0]
    refine DR.yes rfl ?_
    refine DR.nm rfl ?_
    refine DR.yes rfl ?_
    refine DR.nm rfl ?_
    refine DR.ops ?_
    simp -dsimp only [r13_17, SZ, wantedA, astep, Env.val, Env.vals, Env.put, Env.set, Env.get, envFrom, Env.keep, afaddr, aun, AVal.cells, aundef, if_true, if_false, reduceIte, beq_self_eq_true, Nat.reduceEqDiff, Nat.reduceAdd, Nat.reduceLeDiff]
    refine DR.nm rfl ?_
    exact DR.ret ⟨_, by simp [aresult, ares, Env.get] <;> rfl, rfl, by simp only [kept, h0, Bool.or_true, Bool.true_or, Bool.or_false, Bool.false_or]⟩
  rw [Bool.not_eq_true] at h0
  rw [h0]
  refine DR.no rfl ?_
  refine DR.nm rfl ?_
  refine DR.ops ?_
  simp -dsimp only [r13_3, SZ, wantedA, astep, Env.val, Env.vals, Env.put, Env.set, Env.get, envFrom, Env.keep, afaddr, aun, AVal.cells, aundef, if_true, if_false, reduceIte, beq_self_eq_true, Nat.reduceEqDiff, Nat.reduceAdd, Nat.reduceLeDiff, abin]
  by_cases h1 : (s.toList == (⟨#[97, 110, 100, 97, 108, 115, 111]⟩ : ByteArray).toList) = true
  · rw [h1]
    refine DR.yes rfl ?_
    refine DR.nm rfl ?_
    refine DR.yes rfl ?_
    refine DR.nm rfl ?_
    refine DR.ops ?_
    simp -dsimp only [r13_17, SZ, wantedA, astep, Env.val, Env.vals, Env.put, Env.set, Env.get, envFrom, Env.keep, afaddr, aun, AVal.cells, aundef, if_true, if_false, reduceIte, beq_self_eq_true, Nat.reduceEqDiff, Nat.reduceAdd, Nat.reduceLeDiff]
    refine DR.nm rfl ?_
    exact DR.ret ⟨_, by simp [aresult, ares, Env.get] <;> rfl, rfl, by simp only [kept, h0, h1, Bool.or_true, Bool.true_or, Bool.or_false, Bool.false_or]⟩
  rw [Bool.not_eq_true] at h1
  rw [h1]
  refine DR.no rfl ?_
  refine DR.nm rfl ?_
  refine DR.ops ?_
  simp -dsimp only [r13_4, SZ, wantedA, astep, Env.val, Env.vals, Env.put, Env.set, Env.get, envFrom, Env.keep, afaddr, aun, AVal.cells, aundef, if_true, if_false, reduceIte, beq_self_eq_true, Nat.reduceEqDiff, Nat.reduceAdd, Nat.reduceLeDiff, abin]
  by_cases h2 : (s.toList == (⟨#[98, 101, 103, 105, 110]⟩ : ByteArray).toList) = true
  · rw [h2]
    refine DR.yes rfl ?_
    refine DR.nm rfl ?_
    refine DR.yes rfl ?_
    refine DR.nm rfl ?_
    refine DR.ops ?_
    simp -dsimp only [r13_17, SZ, wantedA, astep, Env.val, Env.vals, Env.put, Env.set, Env.get, envFrom, Env.keep, afaddr, aun, AVal.cells, aundef, if_true, if_false, reduceIte, beq_self_eq_true, Nat.reduceEqDiff, Nat.reduceAdd, Nat.reduceLeDiff]
    refine DR.nm rfl ?_
    exact DR.ret ⟨_, by simp [aresult, ares, Env.get] <;> rfl, rfl, by simp only [kept, h0, h1, h2, Bool.or_true, Bool.true_or, Bool.or_false, Bool.false_or]⟩
  rw [Bool.not_eq_true] at h2
  rw [h2]
  refine DR.no rfl ?_
  refine DR.nm rfl ?_
  refine DR.ops ?_
  simp -dsimp only [r13_5, SZ, wantedA, astep, Env.val, Env.vals, Env.put, Env.set, Env.get, envFrom, Env.keep, afaddr, aun, AVal.cells, aundef, if_true, if_false, reduceIte, beq_self_eq_true, Nat.reduceEqDiff, Nat.reduceAdd, Nat.reduceLeDiff, abin]
  by_cases h3 : (s.toList == (⟨#[99, 97, 115, 101]⟩ : ByteArray).toList) = true
  · rw [h3]
    refine DR.yes rfl ?_
    refine DR.nm rfl ?_
    refine DR.yes rfl ?_
    refine DR.nm rfl ?_
    refine DR.ops ?_
    simp -dsimp only [r13_17, SZ, wantedA, astep, Env.val, Env.vals, Env.put, Env.set, Env.get, envFrom, Env.keep, afaddr, aun, AVal.cells, aundef, if_true, if_false, reduceIte, beq_self_eq_true, Nat.reduceEqDiff, Nat.reduceAdd, Nat.reduceLeDiff]
    refine DR.nm rfl ?_
    exact DR.ret ⟨_, by simp [aresult, ares, Env.get] <;> rfl, rfl, by simp only [kept, h0, h1, h2, h3, Bool.or_true, Bool.true_or, Bool.or_false, Bool.false_or]⟩
  rw [Bool.not_eq_true] at h3
  rw [h3]
  refine DR.no rfl ?_
  refine DR.nm rfl ?_
  refine DR.ops ?_
  simp -dsimp only [r13_6, SZ, wantedA, astep, Env.val, Env.vals, Env.put, Env.set, Env.get, envFrom, Env.keep, afaddr, aun, AVal.cells, aundef, if_true, if_false, reduceIte, beq_self_eq_true, Nat.reduceEqDiff, Nat.reduceAdd, Nat.reduceLeDiff, abin]
  by_cases h4 : (s.toList == (⟨#[99, 97, 116, 99, 104]⟩ : ByteArray).toList) = true
  · rw [h4]
    refine DR.yes rfl ?_
    refine DR.nm rfl ?_
    refine DR.yes rfl ?_
    refine DR.nm rfl ?_
    refine DR.ops ?_
    simp -dsimp only [r13_17, SZ, wantedA, astep, Env.val, Env.vals, Env.put, Env.set, Env.get, envFrom, Env.keep, afaddr, aun, AVal.cells, aundef, if_true, if_false, reduceIte, beq_self_eq_true, Nat.reduceEqDiff, Nat.reduceAdd, Nat.reduceLeDiff]
    refine DR.nm rfl ?_
    exact DR.ret ⟨_, by simp [aresult, ares, Env.get] <;> rfl, rfl, by simp only [kept, h0, h1, h2, h3, h4, Bool.or_true, Bool.true_or, Bool.or_false, Bool.false_or]⟩
  rw [Bool.not_eq_true] at h4
  rw [h4]
  refine DR.no rfl ?_
  refine DR.nm rfl ?_
  refine DR.ops ?_
  simp -dsimp only [r13_7, SZ, wantedA, astep, Env.val, Env.vals, Env.put, Env.set, Env.get, envFrom, Env.keep, afaddr, aun, AVal.cells, aundef, if_true, if_false, reduceIte, beq_self_eq_true, Nat.reduceEqDiff, Nat.reduceAdd, Nat.reduceLeDiff, abin]
  by_cases h5 : (s.toList == (⟨#[100, 105, 118]⟩ : ByteArray).toList) = true
  · rw [h5]
    refine DR.yes rfl ?_
    refine DR.nm rfl ?_
    refine DR.yes rfl ?_
    refine DR.nm rfl ?_
    refine DR.ops ?_
    simp -dsimp only [r13_17, SZ, wantedA, astep, Env.val, Env.vals, Env.put, Env.set, Env.get, envFrom, Env.keep, afaddr, aun, AVal.cells, aundef, if_true, if_false, reduceIte, beq_self_eq_true, Nat.reduceEqDiff, Nat.reduceAdd, Nat.reduceLeDiff]
    refine DR.nm rfl ?_
    exact DR.ret ⟨_, by simp [aresult, ares, Env.get] <;> rfl, rfl, by simp only [kept, h0, h1, h2, h3, h4, h5, Bool.or_true, Bool.true_or, Bool.or_false, Bool.false_or]⟩
  rw [Bool.not_eq_true] at h5
  rw [h5]
  refine DR.no rfl ?_
  refine DR.nm rfl ?_
  refine DR.ops ?_
  simp -dsimp only [r13_8, SZ, wantedA, astep, Env.val, Env.vals, Env.put, Env.set, Env.get, envFrom, Env.keep, afaddr, aun, AVal.cells, aundef, if_true, if_false, reduceIte, beq_self_eq_true, Nat.reduceEqDiff, Nat.reduceAdd, Nat.reduceLeDiff, abin]
  by_cases h6 : (s.toList == (⟨#[101, 110, 100]⟩ : ByteArray).toList) = true
  · rw [h6]
    refine DR.yes rfl ?_
    refine DR.nm rfl ?_
    refine DR.yes rfl ?_
    refine DR.nm rfl ?_
    refine DR.ops ?_
    simp -dsimp only [r13_17, SZ, wantedA, astep, Env.val, Env.vals, Env.put, Env.set, Env.get, envFrom, Env.keep, afaddr, aun, AVal.cells, aundef, if_true, if_false, reduceIte, beq_self_eq_true, Nat.reduceEqDiff, Nat.reduceAdd, Nat.reduceLeDiff]
    refine DR.nm rfl ?_
    exact DR.ret ⟨_, by simp [aresult, ares, Env.get] <;> rfl, rfl, by simp only [kept, h0, h1, h2, h3, h4, h5, h6, Bool.or_true, Bool.true_or, Bool.or_false, Bool.false_or]⟩
  rw [Bool.not_eq_true] at h6
  rw [h6]
  refine DR.no rfl ?_
  refine DR.nm rfl ?_
  refine DR.ops ?_
  simp -dsimp only [r13_9, SZ, wantedA, astep, Env.val, Env.vals, Env.put, Env.set, Env.get, envFrom, Env.keep, afaddr, aun, AVal.cells, aundef, if_true, if_false, reduceIte, beq_self_eq_true, Nat.reduceEqDiff, Nat.reduceAdd, Nat.reduceLeDiff, abin]
  by_cases h7 : (s.toList == (⟨#[102, 117, 110]⟩ : ByteArray).toList) = true
  · rw [h7]
    refine DR.yes rfl ?_
    refine DR.nm rfl ?_
    refine DR.yes rfl ?_
    refine DR.nm rfl ?_
    refine DR.ops ?_
    simp -dsimp only [r13_17, SZ, wantedA, astep, Env.val, Env.vals, Env.put, Env.set, Env.get, envFrom, Env.keep, afaddr, aun, AVal.cells, aundef, if_true, if_false, reduceIte, beq_self_eq_true, Nat.reduceEqDiff, Nat.reduceAdd, Nat.reduceLeDiff]
    refine DR.nm rfl ?_
    exact DR.ret ⟨_, by simp [aresult, ares, Env.get] <;> rfl, rfl, by simp only [kept, h0, h1, h2, h3, h4, h5, h6, h7, Bool.or_true, Bool.true_or, Bool.or_false, Bool.false_or]⟩
  rw [Bool.not_eq_true] at h7
  rw [h7]
  refine DR.no rfl ?_
  refine DR.nm rfl ?_
  refine DR.ops ?_
  simp -dsimp only [r13_10, SZ, wantedA, astep, Env.val, Env.vals, Env.put, Env.set, Env.get, envFrom, Env.keep, afaddr, aun, AVal.cells, aundef, if_true, if_false, reduceIte, beq_self_eq_true, Nat.reduceEqDiff, Nat.reduceAdd, Nat.reduceLeDiff, abin]
  by_cases h8 : (s.toList == (⟨#[110, 111, 116]⟩ : ByteArray).toList) = true
  · rw [h8]
    refine DR.yes rfl ?_
    refine DR.nm rfl ?_
    refine DR.yes rfl ?_
    refine DR.nm rfl ?_
    refine DR.ops ?_
    simp -dsimp only [r13_17, SZ, wantedA, astep, Env.val, Env.vals, Env.put, Env.set, Env.get, envFrom, Env.keep, afaddr, aun, AVal.cells, aundef, if_true, if_false, reduceIte, beq_self_eq_true, Nat.reduceEqDiff, Nat.reduceAdd, Nat.reduceLeDiff]
    refine DR.nm rfl ?_
    exact DR.ret ⟨_, by simp [aresult, ares, Env.get] <;> rfl, rfl, by simp only [kept, h0, h1, h2, h3, h4, h5, h6, h7, h8, Bool.or_true, Bool.true_or, Bool.or_false, Bool.false_or]⟩
  rw [Bool.not_eq_true] at h8
  rw [h8]
  refine DR.no rfl ?_
  refine DR.nm rfl ?_
  refine DR.ops ?_
  simp -dsimp only [r13_11, SZ, wantedA, astep, Env.val, Env.vals, Env.put, Env.set, Env.get, envFrom, Env.keep, afaddr, aun, AVal.cells, aundef, if_true, if_false, reduceIte, beq_self_eq_true, Nat.reduceEqDiff, Nat.reduceAdd, Nat.reduceLeDiff, abin]
  by_cases h9 : (s.toList == (⟨#[111, 102]⟩ : ByteArray).toList) = true
  · rw [h9]
    refine DR.yes rfl ?_
    refine DR.nm rfl ?_
    refine DR.yes rfl ?_
    refine DR.nm rfl ?_
    refine DR.ops ?_
    simp -dsimp only [r13_17, SZ, wantedA, astep, Env.val, Env.vals, Env.put, Env.set, Env.get, envFrom, Env.keep, afaddr, aun, AVal.cells, aundef, if_true, if_false, reduceIte, beq_self_eq_true, Nat.reduceEqDiff, Nat.reduceAdd, Nat.reduceLeDiff]
    refine DR.nm rfl ?_
    exact DR.ret ⟨_, by simp [aresult, ares, Env.get] <;> rfl, rfl, by simp only [kept, h0, h1, h2, h3, h4, h5, h6, h7, h8, h9, Bool.or_true, Bool.true_or, Bool.or_false, Bool.false_or]⟩
  rw [Bool.not_eq_true] at h9
  rw [h9]
  refine DR.no rfl ?_
  refine DR.nm rfl ?_
  refine DR.ops ?_
  simp -dsimp only [r13_12, SZ, wantedA, astep, Env.val, Env.vals, Env.put, Env.set, Env.get, envFrom, Env.keep, afaddr, aun, AVal.cells, aundef, if_true, if_false, reduceIte, beq_self_eq_true, Nat.reduceEqDiff, Nat.reduceAdd, Nat.reduceLeDiff, abin]
  by_cases h10 : (s.toList == (⟨#[111, 114, 101, 108, 115, 101]⟩ : ByteArray).toList) = true
  · rw [h10]
    refine DR.yes rfl ?_
    refine DR.nm rfl ?_
    refine DR.yes rfl ?_
    refine DR.nm rfl ?_
    refine DR.ops ?_
    simp -dsimp only [r13_17, SZ, wantedA, astep, Env.val, Env.vals, Env.put, Env.set, Env.get, envFrom, Env.keep, afaddr, aun, AVal.cells, aundef, if_true, if_false, reduceIte, beq_self_eq_true, Nat.reduceEqDiff, Nat.reduceAdd, Nat.reduceLeDiff]
    refine DR.nm rfl ?_
    exact DR.ret ⟨_, by simp [aresult, ares, Env.get] <;> rfl, rfl, by simp only [kept, h0, h1, h2, h3, h4, h5, h6, h7, h8, h9, h10, Bool.or_true, Bool.true_or, Bool.or_false, Bool.false_or]⟩
  rw [Bool.not_eq_true] at h10
  rw [h10]
  refine DR.no rfl ?_
  refine DR.nm rfl ?_
  refine DR.ops ?_
  simp -dsimp only [r13_13, SZ, wantedA, astep, Env.val, Env.vals, Env.put, Env.set, Env.get, envFrom, Env.keep, afaddr, aun, AVal.cells, aundef, if_true, if_false, reduceIte, beq_self_eq_true, Nat.reduceEqDiff, Nat.reduceAdd, Nat.reduceLeDiff, abin]
  by_cases h11 : (s.toList == (⟨#[114, 101, 99, 101, 105, 118, 101]⟩ : ByteArray).toList) = true
  · rw [h11]
    refine DR.yes rfl ?_
    refine DR.nm rfl ?_
    refine DR.yes rfl ?_
    refine DR.nm rfl ?_
    refine DR.ops ?_
    simp -dsimp only [r13_17, SZ, wantedA, astep, Env.val, Env.vals, Env.put, Env.set, Env.get, envFrom, Env.keep, afaddr, aun, AVal.cells, aundef, if_true, if_false, reduceIte, beq_self_eq_true, Nat.reduceEqDiff, Nat.reduceAdd, Nat.reduceLeDiff]
    refine DR.nm rfl ?_
    exact DR.ret ⟨_, by simp [aresult, ares, Env.get] <;> rfl, rfl, by simp only [kept, h0, h1, h2, h3, h4, h5, h6, h7, h8, h9, h10, h11, Bool.or_true, Bool.true_or, Bool.or_false, Bool.false_or]⟩
  rw [Bool.not_eq_true] at h11
  rw [h11]
  refine DR.no rfl ?_
  refine DR.nm rfl ?_
  refine DR.ops ?_
  simp -dsimp only [r13_14, SZ, wantedA, astep, Env.val, Env.vals, Env.put, Env.set, Env.get, envFrom, Env.keep, afaddr, aun, AVal.cells, aundef, if_true, if_false, reduceIte, beq_self_eq_true, Nat.reduceEqDiff, Nat.reduceAdd, Nat.reduceLeDiff, abin]
  by_cases h12 : (s.toList == (⟨#[114, 101, 109]⟩ : ByteArray).toList) = true
  · rw [h12]
    refine DR.yes rfl ?_
    refine DR.nm rfl ?_
    refine DR.yes rfl ?_
    refine DR.nm rfl ?_
    refine DR.ops ?_
    simp -dsimp only [r13_17, SZ, wantedA, astep, Env.val, Env.vals, Env.put, Env.set, Env.get, envFrom, Env.keep, afaddr, aun, AVal.cells, aundef, if_true, if_false, reduceIte, beq_self_eq_true, Nat.reduceEqDiff, Nat.reduceAdd, Nat.reduceLeDiff]
    refine DR.nm rfl ?_
    exact DR.ret ⟨_, by simp [aresult, ares, Env.get] <;> rfl, rfl, by simp only [kept, h0, h1, h2, h3, h4, h5, h6, h7, h8, h9, h10, h11, h12, Bool.or_true, Bool.true_or, Bool.or_false, Bool.false_or]⟩
  rw [Bool.not_eq_true] at h12
  rw [h12]
  refine DR.no rfl ?_
  refine DR.nm rfl ?_
  refine DR.ops ?_
  simp -dsimp only [r13_15, SZ, wantedA, astep, Env.val, Env.vals, Env.put, Env.set, Env.get, envFrom, Env.keep, afaddr, aun, AVal.cells, aundef, if_true, if_false, reduceIte, beq_self_eq_true, Nat.reduceEqDiff, Nat.reduceAdd, Nat.reduceLeDiff, abin]
  by_cases h13 : (s.toList == (⟨#[116, 114, 121]⟩ : ByteArray).toList) = true
  · rw [h13]
    refine DR.yes rfl ?_
    refine DR.nm rfl ?_
    refine DR.yes rfl ?_
    refine DR.nm rfl ?_
    refine DR.ops ?_
    simp -dsimp only [r13_17, SZ, wantedA, astep, Env.val, Env.vals, Env.put, Env.set, Env.get, envFrom, Env.keep, afaddr, aun, AVal.cells, aundef, if_true, if_false, reduceIte, beq_self_eq_true, Nat.reduceEqDiff, Nat.reduceAdd, Nat.reduceLeDiff]
    refine DR.nm rfl ?_
    exact DR.ret ⟨_, by simp [aresult, ares, Env.get] <;> rfl, rfl, by simp only [kept, h0, h1, h2, h3, h4, h5, h6, h7, h8, h9, h10, h11, h12, h13, Bool.or_true, Bool.true_or, Bool.or_false, Bool.false_or]⟩
  rw [Bool.not_eq_true] at h13
  rw [h13]
  refine DR.no rfl ?_
  refine DR.nm rfl ?_
  refine DR.ops ?_
  simp -dsimp only [r13_16, SZ, wantedA, astep, Env.val, Env.vals, Env.put, Env.set, Env.get, envFrom, Env.keep, afaddr, aun, AVal.cells, aundef, if_true, if_false, reduceIte, beq_self_eq_true, Nat.reduceEqDiff, Nat.reduceAdd, Nat.reduceLeDiff, abin]
  by_cases h14 : (s.toList == (⟨#[119, 104, 101, 110]⟩ : ByteArray).toList) = true
  · rw [h14]
    refine DR.nm rfl ?_
    refine DR.yes rfl ?_
    refine DR.nm rfl ?_
    refine DR.ops ?_
    simp -dsimp only [r13_17, SZ, wantedA, astep, Env.val, Env.vals, Env.put, Env.set, Env.get, envFrom, Env.keep, afaddr, aun, AVal.cells, aundef, if_true, if_false, reduceIte, beq_self_eq_true, Nat.reduceEqDiff, Nat.reduceAdd, Nat.reduceLeDiff]
    refine DR.nm rfl ?_
    exact DR.ret ⟨_, by simp [aresult, ares, Env.get] <;> rfl, rfl, by simp only [kept, h0, h1, h2, h3, h4, h5, h6, h7, h8, h9, h10, h11, h12, h13, h14, Bool.or_true, Bool.true_or, Bool.or_false, Bool.false_or]⟩
  rw [Bool.not_eq_true] at h14
  rw [h14]
  refine DR.nm rfl ?_
  refine DR.no rfl ?_
  refine DR.nm rfl ?_
  refine DR.ops ?_
  simp -dsimp only [r13_18, SZ, wantedA, astep, Env.val, Env.vals, Env.put, Env.set, Env.get, envFrom, Env.keep, afaddr, aun, AVal.cells, aundef, if_true, if_false, reduceIte, beq_self_eq_true, Nat.reduceEqDiff, Nat.reduceAdd, Nat.reduceLeDiff]
  refine DR.nm rfl ?_
  exact DR.ret ⟨_, by simp [aresult, ares, Env.get] <;> rfl, rfl, by simp only [kept, h0, h1, h2, h3, h4, h5, h6, h7, h8, h9, h10, h11, h12, h13, h14, Bool.or_true, Bool.true_or, Bool.or_false, Bool.false_or]⟩

theorem g26 {H : AHeap} (s : ByteArray) : DCall Tryd.prog 26 [.str s] H fun a H' => H' = H ∧ a = .bool (kept s) := by
  refine DCall.of_body (fn := Tryd.f26) (by kernel_rfl) c26 (by kernel_rfl) (by simp [f26]) ?_
  unfold f26
  simp only []
  refine DR.nm rfl ?_
  refine DR.ops ?_
  simp -dsimp only [r26_0, SZ, wantedA, astep, Env.val, Env.vals, Env.put, Env.set, Env.get, envFrom, Env.keep, afaddr, aun, AVal.cells, aundef, if_true, if_false, reduceIte, beq_self_eq_true, Nat.reduceEqDiff, Nat.reduceAdd, Nat.reduceLeDiff]
  refine DR.nm rfl ?_
  refine DR.ops ?_
  simp -dsimp only [r26_1, SZ, wantedA, astep, Env.val, Env.vals, Env.put, Env.set, Env.get, envFrom, Env.keep, afaddr, aun, AVal.cells, aundef, if_true, if_false, reduceIte, beq_self_eq_true, Nat.reduceEqDiff, Nat.reduceAdd, Nat.reduceLeDiff]
  refine DR.nm rfl ?_
  refine DR.ops ?_
  simp -dsimp only [r26_2, SZ, wantedA, astep, Env.val, Env.vals, Env.put, Env.set, Env.get, envFrom, Env.keep, afaddr, aun, AVal.cells, aundef, if_true, if_false, reduceIte, beq_self_eq_true, Nat.reduceEqDiff, Nat.reduceAdd, Nat.reduceLeDiff, abin]
  by_cases h0 : (s.toList == (⟨#[97, 102, 116, 101, 114]⟩ : ByteArray).toList) = true
  · rw [h0]
    refine DR.yes rfl ?_
    refine DR.nm rfl ?_
    refine DR.yes rfl ?_
    refine DR.nm rfl ?_
    refine DR.ops ?_
    simp -dsimp only [r26_17, SZ, wantedA, astep, Env.val, Env.vals, Env.put, Env.set, Env.get, envFrom, Env.keep, afaddr, aun, AVal.cells, aundef, if_true, if_false, reduceIte, beq_self_eq_true, Nat.reduceEqDiff, Nat.reduceAdd, Nat.reduceLeDiff]
    refine DR.nm rfl ?_
    exact DR.ret ⟨_, by simp [aresult, ares, Env.get] <;> rfl, rfl, by simp only [kept, h0, Bool.or_true, Bool.true_or, Bool.or_false, Bool.false_or]⟩
  rw [Bool.not_eq_true] at h0
  rw [h0]
  refine DR.no rfl ?_
  refine DR.nm rfl ?_
  refine DR.ops ?_
  simp -dsimp only [r26_3, SZ, wantedA, astep, Env.val, Env.vals, Env.put, Env.set, Env.get, envFrom, Env.keep, afaddr, aun, AVal.cells, aundef, if_true, if_false, reduceIte, beq_self_eq_true, Nat.reduceEqDiff, Nat.reduceAdd, Nat.reduceLeDiff, abin]
  by_cases h1 : (s.toList == (⟨#[97, 110, 100, 97, 108, 115, 111]⟩ : ByteArray).toList) = true
  · rw [h1]
    refine DR.yes rfl ?_
    refine DR.nm rfl ?_
    refine DR.yes rfl ?_
    refine DR.nm rfl ?_
    refine DR.ops ?_
    simp -dsimp only [r26_17, SZ, wantedA, astep, Env.val, Env.vals, Env.put, Env.set, Env.get, envFrom, Env.keep, afaddr, aun, AVal.cells, aundef, if_true, if_false, reduceIte, beq_self_eq_true, Nat.reduceEqDiff, Nat.reduceAdd, Nat.reduceLeDiff]
    refine DR.nm rfl ?_
    exact DR.ret ⟨_, by simp [aresult, ares, Env.get] <;> rfl, rfl, by simp only [kept, h0, h1, Bool.or_true, Bool.true_or, Bool.or_false, Bool.false_or]⟩
  rw [Bool.not_eq_true] at h1
  rw [h1]
  refine DR.no rfl ?_
  refine DR.nm rfl ?_
  refine DR.ops ?_
  simp -dsimp only [r26_4, SZ, wantedA, astep, Env.val, Env.vals, Env.put, Env.set, Env.get, envFrom, Env.keep, afaddr, aun, AVal.cells, aundef, if_true, if_false, reduceIte, beq_self_eq_true, Nat.reduceEqDiff, Nat.reduceAdd, Nat.reduceLeDiff, abin]
  by_cases h2 : (s.toList == (⟨#[98, 101, 103, 105, 110]⟩ : ByteArray).toList) = true
  · rw [h2]
    refine DR.yes rfl ?_
    refine DR.nm rfl ?_
    refine DR.yes rfl ?_
    refine DR.nm rfl ?_
    refine DR.ops ?_
    simp -dsimp only [r26_17, SZ, wantedA, astep, Env.val, Env.vals, Env.put, Env.set, Env.get, envFrom, Env.keep, afaddr, aun, AVal.cells, aundef, if_true, if_false, reduceIte, beq_self_eq_true, Nat.reduceEqDiff, Nat.reduceAdd, Nat.reduceLeDiff]
    refine DR.nm rfl ?_
    exact DR.ret ⟨_, by simp [aresult, ares, Env.get] <;> rfl, rfl, by simp only [kept, h0, h1, h2, Bool.or_true, Bool.true_or, Bool.or_false, Bool.false_or]⟩
  rw [Bool.not_eq_true] at h2
  rw [h2]
  refine DR.no rfl ?_
  refine DR.nm rfl ?_
  refine DR.ops ?_
  simp -dsimp only [r26_5, SZ, wantedA, astep, Env.val, Env.vals, Env.put, Env.set, Env.get, envFrom, Env.keep, afaddr, aun, AVal.cells, aundef, if_true, if_false, reduceIte, beq_self_eq_true, Nat.reduceEqDiff, Nat.reduceAdd, Nat.reduceLeDiff, abin]
  by_cases h3 : (s.toList == (⟨#[99, 97, 115, 101]⟩ : ByteArray).toList) = true
  · rw [h3]
    refine DR.yes rfl ?_
    refine DR.nm rfl ?_
    refine DR.yes rfl ?_
    refine DR.nm rfl ?_
    refine DR.ops ?_
    simp -dsimp only [r26_17, SZ, wantedA, astep, Env.val, Env.vals, Env.put, Env.set, Env.get, envFrom, Env.keep, afaddr, aun, AVal.cells, aundef, if_true, if_false, reduceIte, beq_self_eq_true, Nat.reduceEqDiff, Nat.reduceAdd, Nat.reduceLeDiff]
    refine DR.nm rfl ?_
    exact DR.ret ⟨_, by simp [aresult, ares, Env.get] <;> rfl, rfl, by simp only [kept, h0, h1, h2, h3, Bool.or_true, Bool.true_or, Bool.or_false, Bool.false_or]⟩
  rw [Bool.not_eq_true] at h3
  rw [h3]
  refine DR.no rfl ?_
  refine DR.nm rfl ?_
  refine DR.ops ?_
  simp -dsimp only [r26_6, SZ, wantedA, astep, Env.val, Env.vals, Env.put, Env.set, Env.get, envFrom, Env.keep, afaddr, aun, AVal.cells, aundef, if_true, if_false, reduceIte, beq_self_eq_true, Nat.reduceEqDiff, Nat.reduceAdd, Nat.reduceLeDiff, abin]
  by_cases h4 : (s.toList == (⟨#[99, 97, 116, 99, 104]⟩ : ByteArray).toList) = true
  · rw [h4]
    refine DR.yes rfl ?_
    refine DR.nm rfl ?_
    refine DR.yes rfl ?_
    refine DR.nm rfl ?_
    refine DR.ops ?_
    simp -dsimp only [r26_17, SZ, wantedA, astep, Env.val, Env.vals, Env.put, Env.set, Env.get, envFrom, Env.keep, afaddr, aun, AVal.cells, aundef, if_true, if_false, reduceIte, beq_self_eq_true, Nat.reduceEqDiff, Nat.reduceAdd, Nat.reduceLeDiff]
    refine DR.nm rfl ?_
    exact DR.ret ⟨_, by simp [aresult, ares, Env.get] <;> rfl, rfl, by simp only [kept, h0, h1, h2, h3, h4, Bool.or_true, Bool.true_or, Bool.or_false, Bool.false_or]⟩
  rw [Bool.not_eq_true] at h4
  rw [h4]
  refine DR.no rfl ?_
  refine DR.nm rfl ?_
  refine DR.ops ?_
  simp -dsimp only [r26_7, SZ, wantedA, astep, Env.val, Env.vals, Env.put, Env.set, Env.get, envFrom, Env.keep, afaddr, aun, AVal.cells, aundef, if_true, if_false, reduceIte, beq_self_eq_true, Nat.reduceEqDiff, Nat.reduceAdd, Nat.reduceLeDiff, abin]
  by_cases h5 : (s.toList == (⟨#[100, 105, 118]⟩ : ByteArray).toList) = true
  · rw [h5]
    refine DR.yes rfl ?_
    refine DR.nm rfl ?_
    refine DR.yes rfl ?_
    refine DR.nm rfl ?_
    refine DR.ops ?_
    simp -dsimp only [r26_17, SZ, wantedA, astep, Env.val, Env.vals, Env.put, Env.set, Env.get, envFrom, Env.keep, afaddr, aun, AVal.cells, aundef, if_true, if_false, reduceIte, beq_self_eq_true, Nat.reduceEqDiff, Nat.reduceAdd, Nat.reduceLeDiff]
    refine DR.nm rfl ?_
    exact DR.ret ⟨_, by simp [aresult, ares, Env.get] <;> rfl, rfl, by simp only [kept, h0, h1, h2, h3, h4, h5, Bool.or_true, Bool.true_or, Bool.or_false, Bool.false_or]⟩
  rw [Bool.not_eq_true] at h5
  rw [h5]
  refine DR.no rfl ?_
  refine DR.nm rfl ?_
  refine DR.ops ?_
  simp -dsimp only [r26_8, SZ, wantedA, astep, Env.val, Env.vals, Env.put, Env.set, Env.get, envFrom, Env.keep, afaddr, aun, AVal.cells, aundef, if_true, if_false, reduceIte, beq_self_eq_true, Nat.reduceEqDiff, Nat.reduceAdd, Nat.reduceLeDiff, abin]
  by_cases h6 : (s.toList == (⟨#[101, 110, 100]⟩ : ByteArray).toList) = true
  · rw [h6]
    refine DR.yes rfl ?_
    refine DR.nm rfl ?_
    refine DR.yes rfl ?_
    refine DR.nm rfl ?_
    refine DR.ops ?_
    simp -dsimp only [r26_17, SZ, wantedA, astep, Env.val, Env.vals, Env.put, Env.set, Env.get, envFrom, Env.keep, afaddr, aun, AVal.cells, aundef, if_true, if_false, reduceIte, beq_self_eq_true, Nat.reduceEqDiff, Nat.reduceAdd, Nat.reduceLeDiff]
    refine DR.nm rfl ?_
    exact DR.ret ⟨_, by simp [aresult, ares, Env.get] <;> rfl, rfl, by simp only [kept, h0, h1, h2, h3, h4, h5, h6, Bool.or_true, Bool.true_or, Bool.or_false, Bool.false_or]⟩
  rw [Bool.not_eq_true] at h6
  rw [h6]
  refine DR.no rfl ?_
  refine DR.nm rfl ?_
  refine DR.ops ?_
  simp -dsimp only [r26_9, SZ, wantedA, astep, Env.val, Env.vals, Env.put, Env.set, Env.get, envFrom, Env.keep, afaddr, aun, AVal.cells, aundef, if_true, if_false, reduceIte, beq_self_eq_true, Nat.reduceEqDiff, Nat.reduceAdd, Nat.reduceLeDiff, abin]
  by_cases h7 : (s.toList == (⟨#[102, 117, 110]⟩ : ByteArray).toList) = true
  · rw [h7]
    refine DR.yes rfl ?_
    refine DR.nm rfl ?_
    refine DR.yes rfl ?_
    refine DR.nm rfl ?_
    refine DR.ops ?_
    simp -dsimp only [r26_17, SZ, wantedA, astep, Env.val, Env.vals, Env.put, Env.set, Env.get, envFrom, Env.keep, afaddr, aun, AVal.cells, aundef, if_true, if_false, reduceIte, beq_self_eq_true, Nat.reduceEqDiff, Nat.reduceAdd, Nat.reduceLeDiff]
    refine DR.nm rfl ?_
    exact DR.ret ⟨_, by simp [aresult, ares, Env.get] <;> rfl, rfl, by simp only [kept, h0, h1, h2, h3, h4, h5, h6, h7, Bool.or_true, Bool.true_or, Bool.or_false, Bool.false_or]⟩
  rw [Bool.not_eq_true] at h7
  rw [h7]
  refine DR.no rfl ?_
  refine DR.nm rfl ?_
  refine DR.ops ?_
  simp -dsimp only [r26_10, SZ, wantedA, astep, Env.val, Env.vals, Env.put, Env.set, Env.get, envFrom, Env.keep, afaddr, aun, AVal.cells, aundef, if_true, if_false, reduceIte, beq_self_eq_true, Nat.reduceEqDiff, Nat.reduceAdd, Nat.reduceLeDiff, abin]
  by_cases h8 : (s.toList == (⟨#[110, 111, 116]⟩ : ByteArray).toList) = true
  · rw [h8]
    refine DR.yes rfl ?_
    refine DR.nm rfl ?_
    refine DR.yes rfl ?_
    refine DR.nm rfl ?_
    refine DR.ops ?_
    simp -dsimp only [r26_17, SZ, wantedA, astep, Env.val, Env.vals, Env.put, Env.set, Env.get, envFrom, Env.keep, afaddr, aun, AVal.cells, aundef, if_true, if_false, reduceIte, beq_self_eq_true, Nat.reduceEqDiff, Nat.reduceAdd, Nat.reduceLeDiff]
    refine DR.nm rfl ?_
    exact DR.ret ⟨_, by simp [aresult, ares, Env.get] <;> rfl, rfl, by simp only [kept, h0, h1, h2, h3, h4, h5, h6, h7, h8, Bool.or_true, Bool.true_or, Bool.or_false, Bool.false_or]⟩
  rw [Bool.not_eq_true] at h8
  rw [h8]
  refine DR.no rfl ?_
  refine DR.nm rfl ?_
  refine DR.ops ?_
  simp -dsimp only [r26_11, SZ, wantedA, astep, Env.val, Env.vals, Env.put, Env.set, Env.get, envFrom, Env.keep, afaddr, aun, AVal.cells, aundef, if_true, if_false, reduceIte, beq_self_eq_true, Nat.reduceEqDiff, Nat.reduceAdd, Nat.reduceLeDiff, abin]
  by_cases h9 : (s.toList == (⟨#[111, 102]⟩ : ByteArray).toList) = true
  · rw [h9]
    refine DR.yes rfl ?_
    refine DR.nm rfl ?_
    refine DR.yes rfl ?_
    refine DR.nm rfl ?_
    refine DR.ops ?_
    simp -dsimp only [r26_17, SZ, wantedA, astep, Env.val, Env.vals, Env.put, Env.set, Env.get, envFrom, Env.keep, afaddr, aun, AVal.cells, aundef, if_true, if_false, reduceIte, beq_self_eq_true, Nat.reduceEqDiff, Nat.reduceAdd, Nat.reduceLeDiff]
    refine DR.nm rfl ?_
    exact DR.ret ⟨_, by simp [aresult, ares, Env.get] <;> rfl, rfl, by simp only [kept, h0, h1, h2, h3, h4, h5, h6, h7, h8, h9, Bool.or_true, Bool.true_or, Bool.or_false, Bool.false_or]⟩
  rw [Bool.not_eq_true] at h9
  rw [h9]
  refine DR.no rfl ?_
  refine DR.nm rfl ?_
  refine DR.ops ?_
  simp -dsimp only [r26_12, SZ, wantedA, astep, Env.val, Env.vals, Env.put, Env.set, Env.get, envFrom, Env.keep, afaddr, aun, AVal.cells, aundef, if_true, if_false, reduceIte, beq_self_eq_true, Nat.reduceEqDiff, Nat.reduceAdd, Nat.reduceLeDiff, abin]
  by_cases h10 : (s.toList == (⟨#[111, 114, 101, 108, 115, 101]⟩ : ByteArray).toList) = true
  · rw [h10]
    refine DR.yes rfl ?_
    refine DR.nm rfl ?_
    refine DR.yes rfl ?_
    refine DR.nm rfl ?_
    refine DR.ops ?_
    simp -dsimp only [r26_17, SZ, wantedA, astep, Env.val, Env.vals, Env.put, Env.set, Env.get, envFrom, Env.keep, afaddr, aun, AVal.cells, aundef, if_true, if_false, reduceIte, beq_self_eq_true, Nat.reduceEqDiff, Nat.reduceAdd, Nat.reduceLeDiff]
    refine DR.nm rfl ?_
    exact DR.ret ⟨_, by simp [aresult, ares, Env.get] <;> rfl, rfl, by simp only [kept, h0, h1, h2, h3, h4, h5, h6, h7, h8, h9, h10, Bool.or_true, Bool.true_or, Bool.or_false, Bool.false_or]⟩
  rw [Bool.not_eq_true] at h10
  rw [h10]
  refine DR.no rfl ?_
  refine DR.nm rfl ?_
  refine DR.ops ?_
  simp -dsimp only [r26_13, SZ, wantedA, astep, Env.val, Env.vals, Env.put, Env.set, Env.get, envFrom, Env.keep, afaddr, aun, AVal.cells, aundef, if_true, if_false, reduceIte, beq_self_eq_true, Nat.reduceEqDiff, Nat.reduceAdd, Nat.reduceLeDiff, abin]
  by_cases h11 : (s.toList == (⟨#[114, 101, 99, 101, 105, 118, 101]⟩ : ByteArray).toList) = true
  · rw [h11]
    refine DR.yes rfl ?_
    refine DR.nm rfl ?_
    refine DR.yes rfl ?_
    refine DR.nm rfl ?_
    refine DR.ops ?_
    simp -dsimp only [r26_17, SZ, wantedA, astep, Env.val, Env.vals, Env.put, Env.set, Env.get, envFrom, Env.keep, afaddr, aun, AVal.cells, aundef, if_true, if_false, reduceIte, beq_self_eq_true, Nat.reduceEqDiff, Nat.reduceAdd, Nat.reduceLeDiff]
    refine DR.nm rfl ?_
    exact DR.ret ⟨_, by simp [aresult, ares, Env.get] <;> rfl, rfl, by simp only [kept, h0, h1, h2, h3, h4, h5, h6, h7, h8, h9, h10, h11, Bool.or_true, Bool.true_or, Bool.or_false, Bool.false_or]⟩
  rw [Bool.not_eq_true] at h11
  rw [h11]
  refine DR.no rfl ?_
  refine DR.nm rfl ?_
  refine DR.ops ?_
  simp -dsimp only [r26_14, SZ, wantedA, astep, Env.val, Env.vals, Env.put, Env.set, Env.get, envFrom, Env.keep, afaddr, aun, AVal.cells, aundef, if_true, if_false, reduceIte, beq_self_eq_true, Nat.reduceEqDiff, Nat.reduceAdd, Nat.reduceLeDiff, abin]
  by_cases h12 : (s.toList == (⟨#[114, 101, 109]⟩ : ByteArray).toList) = true
  · rw [h12]
    refine DR.yes rfl ?_
    refine DR.nm rfl ?_
    refine DR.yes rfl ?_
    refine DR.nm rfl ?_
    refine DR.ops ?_
    simp -dsimp only [r26_17, SZ, wantedA, astep, Env.val, Env.vals, Env.put, Env.set, Env.get, envFrom, Env.keep, afaddr, aun, AVal.cells, aundef, if_true, if_false, reduceIte, beq_self_eq_true, Nat.reduceEqDiff, Nat.reduceAdd, Nat.reduceLeDiff]
    refine DR.nm rfl ?_
    exact DR.ret ⟨_, by simp [aresult, ares, Env.get] <;> rfl, rfl, by simp only [kept, h0, h1, h2, h3, h4, h5, h6, h7, h8, h9, h10, h11, h12, Bool.or_true, Bool.true_or, Bool.or_false, Bool.false_or]⟩
  rw [Bool.not_eq_true] at h12
  rw [h12]
  refine DR.no rfl ?_
  refine DR.nm rfl ?_
  refine DR.ops ?_
  simp -dsimp only [r26_15, SZ, wantedA, astep, Env.val, Env.vals, Env.put, Env.set, Env.get, envFrom, Env.keep, afaddr, aun, AVal.cells, aundef, if_true, if_false, reduceIte, beq_self_eq_true, Nat.reduceEqDiff, Nat.reduceAdd, Nat.reduceLeDiff, abin]
  by_cases h13 : (s.toList == (⟨#[116, 114, 121]⟩ : ByteArray).toList) = true
  · rw [h13]
    refine DR.yes rfl ?_
    refine DR.nm rfl ?_
    refine DR.yes rfl ?_
    refine DR.nm rfl ?_
    refine DR.ops ?_
    simp -dsimp only [r26_17, SZ, wantedA, astep, Env.val, Env.vals, Env.put, Env.set, Env.get, envFrom, Env.keep, afaddr, aun, AVal.cells, aundef, if_true, if_false, reduceIte, beq_self_eq_true, Nat.reduceEqDiff, Nat.reduceAdd, Nat.reduceLeDiff]
    refine DR.nm rfl ?_
    exact DR.ret ⟨_, by simp [aresult, ares, Env.get] <;> rfl, rfl, by simp only [kept, h0, h1, h2, h3, h4, h5, h6, h7, h8, h9, h10, h11, h12, h13, Bool.or_true, Bool.true_or, Bool.or_false, Bool.false_or]⟩
  rw [Bool.not_eq_true] at h13
  rw [h13]
  refine DR.no rfl ?_
  refine DR.nm rfl ?_
  refine DR.ops ?_
  simp -dsimp only [r26_16, SZ, wantedA, astep, Env.val, Env.vals, Env.put, Env.set, Env.get, envFrom, Env.keep, afaddr, aun, AVal.cells, aundef, if_true, if_false, reduceIte, beq_self_eq_true, Nat.reduceEqDiff, Nat.reduceAdd, Nat.reduceLeDiff, abin]
  by_cases h14 : (s.toList == (⟨#[119, 104, 101, 110]⟩ : ByteArray).toList) = true
  · rw [h14]
    refine DR.nm rfl ?_
    refine DR.yes rfl ?_
    refine DR.nm rfl ?_
    refine DR.ops ?_
    simp -dsimp only [r26_17, SZ, wantedA, astep, Env.val, Env.vals, Env.put, Env.set, Env.get, envFrom, Env.keep, afaddr, aun, AVal.cells, aundef, if_true, if_false, reduceIte, beq_self_eq_true, Nat.reduceEqDiff, Nat.reduceAdd, Nat.reduceLeDiff]
    refine DR.nm rfl ?_
    exact DR.ret ⟨_, by simp [aresult, ares, Env.get] <;> rfl, rfl, by simp only [kept, h0, h1, h2, h3, h4, h5, h6, h7, h8, h9, h10, h11, h12, h13, h14, Bool.or_true, Bool.true_or, Bool.or_false, Bool.false_or]⟩
  rw [Bool.not_eq_true] at h14
  rw [h14]
  refine DR.nm rfl ?_
  refine DR.no rfl ?_
  refine DR.nm rfl ?_
  refine DR.ops ?_
  simp -dsimp only [r26_18, SZ, wantedA, astep, Env.val, Env.vals, Env.put, Env.set, Env.get, envFrom, Env.keep, afaddr, aun, AVal.cells, aundef, if_true, if_false, reduceIte, beq_self_eq_true, Nat.reduceEqDiff, Nat.reduceAdd, Nat.reduceLeDiff]
  refine DR.nm rfl ?_
  exact DR.ret ⟨_, by simp [aresult, ares, Env.get] <;> rfl, rfl, by simp only [kept, h0, h1, h2, h3, h4, h5, h6, h7, h8, h9, h10, h11, h12, h13, h14, Bool.or_true, Bool.true_or, Bool.or_false, Bool.false_or]⟩

theorem g14 {H : AHeap} (s : ByteArray) : DCall Tryd.prog 14 [.str s] H fun a H' => H' = H ∧ a = .bool (kept s) := by
  refine DCall.of_body (fn := Tryd.f14) (by kernel_rfl) c14 (by kernel_rfl) (by simp [f14]) ?_
  unfold f14
  simp only []
  refine DR.nm rfl ?_
  refine DR.ops ?_
  simp -dsimp only [r14_0, SZ, wantedA, astep, Env.val, Env.vals, Env.put, Env.set, Env.get, envFrom, Env.keep, afaddr, aun, AVal.cells, aundef, if_true, if_false, reduceIte, beq_self_eq_true, Nat.reduceEqDiff, Nat.reduceAdd, Nat.reduceLeDiff]
  refine DR.nm rfl ?_
  refine DR.ops ?_
  simp -dsimp only [r14_1, SZ, wantedA, astep, Env.val, Env.vals, Env.put, Env.set, Env.get, envFrom, Env.keep, afaddr, aun, AVal.cells, aundef, if_true, if_false, reduceIte, beq_self_eq_true, Nat.reduceEqDiff, Nat.reduceAdd, Nat.reduceLeDiff]
  refine (g26 s).mono ?_
  rintro a H1 ⟨rfl, rfl⟩
  simp -dsimp only [SZ, wantedA, astep, Env.val, Env.vals, Env.put, Env.set, Env.get, envFrom, Env.keep, afaddr, aun, AVal.cells, aundef, if_true, if_false, reduceIte, beq_self_eq_true, Nat.reduceEqDiff, Nat.reduceAdd, Nat.reduceLeDiff]
  refine DR.nm rfl ?_
  exact DR.ret ⟨_, by simp [aresult, ares, Env.get] <;> rfl, rfl, rfl⟩
end Go.Am.Rl
