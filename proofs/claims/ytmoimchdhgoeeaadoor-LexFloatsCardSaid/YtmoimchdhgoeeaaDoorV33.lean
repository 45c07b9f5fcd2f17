/- LexFloats. -/
import Derived.Test.YtmoimchdhgoeeaaDoorV32
set_option linter.unusedVariables false
set_option linter.unusedSimpArgs false
namespace Go.Am.Rl
open Go.Proofs

theorem RowT.first {H : AHeap} {x : AVal} {k : Int} {s : ByteArray} {n : Int} {f : Nat} {i : Int} {l : List (List AVal)} (h : RowT H x (tokC k s n f i :: l)) :
    ∃ id t, (∀ H', aiaddr H' 5 x (.int .i64 0) = some (.ptr id 0)) ∧ rid x = some id ∧ H.get id = some (.cells 35 (.int .i64 k :: .str s :: .int .i64 n :: .flt .f64 f :: .int .i64 i :: t)) := by
  rcases h with ⟨_, h⟩ | ⟨id, c, r, rfl, h⟩
  · cases h
  · refine ⟨id, l.flatten ++ r, fun H' => ?_, rfl, ?_⟩
    · simp only [aiaddr]
      rw [if_pos (by simp)]; rfl
    · rw [h]; rfl
theorem remU12 (n : Nat) : abin .rem (.int .u64 (n : Nat)) (.int .u64 1000000000000) = some (.int .u64 ((n % 1000000000000 : Nat) : Int)) := by
  have h : ¬ ((1000000000000 : Int) = 0) := by decide
  simp only [abin]
  rw [if_pos trivial, if_neg h, Int.tmod_eq_emod_of_nonneg (by omega)]; rfl

section
variable {H : AHeap} {u v p k0 : Nat} {k : List AItem} {a b : Int}
theorem end7 {hl fl : List Int} (hI : Inv7 v fl 0 hl) (hv : v < 1000000000000) (fd : ∀ c ∈ fl, digOk c) (h1 : 1 ≤ hl.length) (hlead : ∀ c, 1 < hl.length → hl[0]? = some c → c ≠ 48) (hfl : fl.length = k0 + 1) (hk0 : k0 < 12) (hsum : hl.length + fl.length ≤ 15) (hp : H.get p = some (.cells 26 [.int .i64 a, .int .i64 b])) :
    DR Tryd.prog (kof k7) 166 (.code (.seq (.region false r7_38 [1, 11, 12, 15]) (.seq (.region false r7_39 [6]) .ret)) :: k)
      [(1, .int .u64 (v : Nat)), (12, .ptr p 0), (13, .str (strOf fl)), (15, .flt .f64 (ten10 k0)), (17, .str (strOf hl))] H fun T' H' => ∃ r, aresult H' T' [.tmp 6] = some r ∧ r = .bool true := by
  obtain ⟨hf, hd, _⟩ := hI
  have htk := dec_tokens hd fd h1 hlead (by omega) hsum hf (by omega)
  have c1 := cat_small (a := strOf hl) (b := strOf [46]) (by rw [strOf_size, strOf_size]; simp; omega)
  rw [strOf_cat] at c1
  have c1 : abin .add (.str (strOf hl)) (.str ⟨#[46]⟩) = some (.str (strOf (hl ++ [46]))) := c1
  have c2 := cat_small (a := strOf (hl ++ [46])) (b := strOf fl) (by rw [strOf_size, strOf_size]; simp; omega)
  rw [strOf_cat, List.append_assoc] at c2
  have c2 : abin .add (.str (strOf (hl ++ [46]))) (.str (strOf fl)) = some (.str (strOf (hl ++ 46 :: fl))) := c2
  have hpn := AHeap.get_lt hp
  refine DR.nm rfl ?_
  refine DR.ops ?_
  simp -dsimp only [SZ, wantedA, astep, Env.val, Env.vals, Env.put, Env.set, Env.get, envFrom, Env.keep, afaddr, aun, AVal.cells, aundef, if_true, if_false, reduceIte, beq_self_eq_true, Nat.reduceEqDiff, Nat.reduceAdd, Nat.reduceLeDiff, c1, c2]
  refine (g10 (H := H) (s := strOf (hl ++ 46 :: fl)) (by rw [strOf_size, List.length_append, List.length_cons]; omega)).mono ?_
  intro r H1 hT
  obtain ⟨x, rfl, hx, ox, n1, f1⟩ := hT.row
  rw [htk] at hx ⊢
  obtain ⟨id, t, hax, hrx, gx⟩ := RowT.first (l := [tokC 8 ⟨#[]⟩ 0 0 ((hl.length + 1 + fl.length : Nat) : Int)]) hx
  have hlx := fun H' => hx.len H'
  have hpid : id ≠ p := by have := ox id hrx; omega
  have g1 := (f1 p hpn).trans hp
  have st := store_all (n := 2) g1 (new := [.int .i64 0, .int .i64 0]) rfl rfl rfl
  obtain ⟨H2, hH2, g2, n2, f2⟩ := upd g1 (.cells 26 [.int .i64 0, .int .i64 0])
  rw [← hH2] at st
  have gx2 := (f2 id hpid).trans gx
  have l0 := load_cell gx2 (o := 0) rfl
  have l3 := load_cell gx2 (o := 3) rfl
  have lp := load_all (n := 2) g2 rfl
  have hlen2 : ((resRow (.inr [tokC 4 ⟨#[]⟩ 0 (quoW (v : Nat) fl.length) 0, tokC 8 ⟨#[]⟩ 0 0 ((hl.length + 1 + fl.length : Nat) : Int)])).length : Nat) = 2 := rfl
  rw [hlen2] at hlx
  have hm := abin_ten (n := k0) (by omega)
  have hq := abin_quo (v : Int) (n := k0 + 1) (by omega)
  have heq : abin .eql (.flt .f64 (quoW (v : Nat) (k0 + 1))) (.flt .f64 (quoW (v : Nat) (k0 + 1))) = some (.bool true) := by
    have hn := quo_nan (v : Int) (n := k0 + 1) (by omega)
    have ho := order_self (quoW (v : Nat) (k0 + 1))
    rw [hn] at ho
    simp only [abin]
    rw [if_pos trivial]
    congr 2
    simpa [bne] using ho
  rw [hfl] at l3
  have e22 : (((2 : Nat) : Int) == 2) = true := by decide
  have b1 : abin .eql (.int .i64 ((2 : Nat) : Int)) (.int .i64 2) = some (.bool true) := rfl
  have b2 : abin .eql (.int .i64 4) (.int .i64 4) = some (.bool true) := rfl
  simp -dsimp only [SZ, wantedA, astep, Env.val, Env.vals, Env.put, Env.set, Env.get, envFrom, Env.keep, afaddr, aun, AVal.cells, aundef, if_true, if_false, reduceIte, beq_self_eq_true, Nat.reduceEqDiff, Nat.reduceAdd, Nat.reduceLeDiff, resErr, st]
  refine DR.nm rfl ?_
  refine DR.ops ?_
  simp -dsimp only [SZ, wantedA, astep, Env.val, Env.vals, Env.put, Env.set, Env.get, envFrom, Env.keep, afaddr, aun, AVal.cells, aundef, if_true, if_false, reduceIte, beq_self_eq_true, Nat.reduceEqDiff, Nat.reduceAdd, Nat.reduceLeDiff, lp, aeqs, hlx, b1, hax, l0, b2, l3, hm, hq, heq, afill, Env.parts]
  refine DR.nm rfl ?_
  exact DR.ret ⟨_, by simp [aresult, ares, Env.get] <;> rfl, rfl⟩
/-- The second half: the decimal. -/
theorem dec7 (hv : v < 1000000000000) (hk0 : k0 < 12) (hp : H.get p = some (.cells 26 [.int .i64 a, .int .i64 b])) :
    DR Tryd.prog (kof k7) 166 (.code (.seq (.region false r7_22 [1, 2, 12, 13]) (.seq (.region false r7_23 [1, 2, 12, 13, 14]) (.seq (.region false r7_24 [1, 2, 12, 13, 14, 15]) (.seq (.seq (.region false r7_25 [1, 2, 12, 13, 14, 15, 16]) (.block 2 (.loop l7_1))) (.seq (.region false r7_32 [1, 12, 13, 14, 15, 17]) (.seq (.seq (.region false r7_33 [1, 12, 13, 14, 15, 17, 118]) (.cond (.t 118) (.region false r7_34 [1, 12, 13, 14, 15, 17]) .skip)) (.seq (.block 4 (.loop l7_2)) (.seq (.region false r7_38 [1, 11, 12, 15]) (.seq (.region false r7_39 [6]) .ret))))))))) :: k)
      [(1, .int .u64 (v : Nat)), (2, .int .i64 (k0 : Nat)), (12, .ptr p 0)] H fun T' H' => ∃ r, aresult H' T' [.tmp 6] = some r ∧ r = .bool true := by
  refine DR.nm rfl ?_
  refine DR.ops ?_
  simp -dsimp only [SZ, wantedA, astep, Env.val, Env.vals, Env.put, Env.set, Env.get, envFrom, Env.keep, afaddr, aun, AVal.cells, aundef, if_true, if_false, reduceIte, beq_self_eq_true, Nat.reduceEqDiff, Nat.reduceAdd, Nat.reduceLeDiff]
  refine DR.nm rfl ?_
  refine DR.ops ?_
  simp -dsimp only [SZ, wantedA, astep, Env.val, Env.vals, Env.put, Env.set, Env.get, envFrom, Env.keep, afaddr, aun, AVal.cells, aundef, if_true, if_false, reduceIte, beq_self_eq_true, Nat.reduceEqDiff, Nat.reduceAdd, Nat.reduceLeDiff]
  refine DR.nm rfl ?_
  refine DR.ops ?_
  simp -dsimp only [SZ, wantedA, astep, Env.val, Env.vals, Env.put, Env.set, Env.get, envFrom, Env.keep, afaddr, aun, AVal.cells, aundef, if_true, if_false, reduceIte, beq_self_eq_true, Nat.reduceEqDiff, Nat.reduceAdd, Nat.reduceLeDiff]
  refine DR.nm rfl ?_
  refine DR.ops ?_
  simp -dsimp only [SZ, wantedA, astep, Env.val, Env.vals, Env.put, Env.set, Env.get, envFrom, Env.keep, afaddr, aun, AVal.cells, aundef, if_true, if_false, reduceIte, beq_self_eq_true, Nat.reduceEqDiff, Nat.reduceAdd, Nat.reduceLeDiff]
  refine DR.nm rfl ?_
  refine DR.loop ?_
  refine loop7b (v := v) (k0 := k0) hk0 rfl (k0 + 1) 0 v [] H (by omega) ⟨rfl, fun c hc => (by cases hc), hv⟩ rfl (by simpa using hv) hp ?_
  intro n fl H1 hI hfl hn hp1
  obtain ⟨i1, i2, i3⟩ := hI
  rw [List.append_nil] at i1
  by_cases h0 : n = 0
  · subst h0
    have hc : decide (((0 : Nat) : Int) > 0) = false := by decide
    have hI0 : Inv7 v fl 0 [48] := ⟨by rw [← i1]; rfl, fun c hc => (by rw [List.mem_singleton.mp hc]; exact ⟨by omega, by omega⟩), by omega⟩
    refine DR.nm rfl ?_
    refine DR.ops ?_
    simp -dsimp only [SZ, wantedA, astep, Env.val, Env.vals, Env.put, Env.set, Env.get, envFrom, Env.keep, afaddr, aun, AVal.cells, aundef, if_true, if_false, reduceIte, beq_self_eq_true, Nat.reduceEqDiff, Nat.reduceAdd, Nat.reduceLeDiff]
    refine DR.nm rfl ?_
    refine DR.ops ?_
    simp -dsimp only [SZ, wantedA, astep, Env.val, Env.vals, Env.put, Env.set, Env.get, envFrom, Env.keep, afaddr, aun, AVal.cells, aundef, if_true, if_false, reduceIte, beq_self_eq_true, Nat.reduceEqDiff, Nat.reduceAdd, Nat.reduceLeDiff, abin, hc]
    refine DR.nm rfl ?_
    refine DR.no rfl ?_
    refine DR.nm rfl ?_
    refine DR.loop ?_
    refine DR.only [1, 12, 13, 14, 15, 17] ?_
    refine loop7c (v := v) (fl := fl) (M := 12 - k0) (by omega) rfl 0 0 [48] H1 (by decide) (by simp; omega) hI0 (fun _ => ⟨by simp, fun c h => (by simp at h)⟩) hp1 ?_
    intro hl H2 hI2 hM h1 hlead hp2
    exact end7 hI2 hv i2 h1 hlead hfl hk0 (by omega) hp2
  · have hc : decide ((n : Int) > 0) = true := decide_eq_true (by omega)
    have hI0 : Inv7 v fl n [] := ⟨i1, fun c hc => (by cases hc), i3⟩
    refine DR.nm rfl ?_
    refine DR.ops ?_
    simp -dsimp only [SZ, wantedA, astep, Env.val, Env.vals, Env.put, Env.set, Env.get, envFrom, Env.keep, afaddr, aun, AVal.cells, aundef, if_true, if_false, reduceIte, beq_self_eq_true, Nat.reduceEqDiff, Nat.reduceAdd, Nat.reduceLeDiff]
    refine DR.nm rfl ?_
    refine DR.ops ?_
    simp -dsimp only [SZ, wantedA, astep, Env.val, Env.vals, Env.put, Env.set, Env.get, envFrom, Env.keep, afaddr, aun, AVal.cells, aundef, if_true, if_false, reduceIte, beq_self_eq_true, Nat.reduceEqDiff, Nat.reduceAdd, Nat.reduceLeDiff, abin, hc]
    refine DR.nm rfl ?_
    refine DR.yes rfl ?_
    refine DR.nm rfl ?_
    refine DR.ops ?_
    simp -dsimp only [SZ, wantedA, astep, Env.val, Env.vals, Env.put, Env.set, Env.get, envFrom, Env.keep, afaddr, aun, AVal.cells, aundef, if_true, if_false, reduceIte, beq_self_eq_true, Nat.reduceEqDiff, Nat.reduceAdd, Nat.reduceLeDiff]
    refine DR.nm rfl ?_
    refine DR.loop ?_
    refine loop7c (v := v) (fl := fl) (M := 12 - k0) (by omega) rfl (12 - (k0 + 1)) n [] H1 hn (by simp; omega) hI0 (fun h => absurd h h0) hp1 ?_
    intro hl H2 hI2 hM h1 hlead hp2
    exact end7 hI2 hv i2 h1 hlead hfl hk0 (by omega) hp2
end
end Go.Am.Rl

