/- LexFloats, joined. -/
import Derived.Test.YtmoimchdhgoeeaaDoorV33
set_option linter.unusedVariables false
set_option linter.unusedSimpArgs false
namespace Go.Am.Rl
open Go.Proofs

theorem half7 {H : AHeap} {v p : Nat} {n : Int} {a b : Int} {k : List AItem} (hp : H.get p = some (.cells 26 [.int .i64 a, .int .i64 b])) :
    DR Tryd.prog (kof k7) 166 (.code (.seq (.region false r7_18 [1, 2, 12]) (.seq (.region false r7_19 [1, 2, 12]) (.seq (.seq (.region false r7_20 [1, 2, 12, 93]) (.cond (.t 93) (.region false r7_21 [1, 2, 12]) .skip)) (.seq (.region false r7_22 [1, 2, 12, 13]) (.seq (.region false r7_23 [1, 2, 12, 13, 14]) (.seq (.region false r7_24 [1, 2, 12, 13, 14, 15]) (.seq (.seq (.region false r7_25 [1, 2, 12, 13, 14, 15, 16]) (.block 2 (.loop l7_1))) (.seq (.region false r7_32 [1, 12, 13, 14, 15, 17]) (.seq (.seq (.region false r7_33 [1, 12, 13, 14, 15, 17, 118]) (.cond (.t 118) (.region false r7_34 [1, 12, 13, 14, 15, 17]) .skip)) (.seq (.block 4 (.loop l7_2)) (.seq (.region false r7_38 [1, 11, 12, 15]) (.seq (.region false r7_39 [6]) .ret)))))))))))) :: k)
      [(1, .int .u64 (v : Nat)), (2, .int .i64 n), (12, .ptr p 0)] H fun T' H' => ∃ r, aresult H' T' [.tmp 6] = some r ∧ r = .bool true := by
  have hr1 : n.tmod 12 < 12 := Int.tmod_lt_of_pos n (by omega)
  have hr2 : -12 < n.tmod 12 := by
    have := Int.lt_tmod_of_pos n (show (0 : Int) < 12 by omega)
    omega
  have h120 : ¬ ((12 : Int) = 0) := by decide
  have hrem : abin .rem (.int .i64 n) (.int .i64 12) = some (.int .i64 (n.tmod 12)) := by
    simp only [abin]
    rw [if_pos trivial, if_neg h120]
  refine DR.nm rfl ?_
  refine DR.ops ?_
  simp -dsimp only [SZ, wantedA, astep, Env.val, Env.vals, Env.put, Env.set, Env.get, envFrom, Env.keep, afaddr, aun, AVal.cells, aundef, if_true, if_false, reduceIte, beq_self_eq_true, Nat.reduceEqDiff, Nat.reduceAdd, Nat.reduceLeDiff, remU12]
  refine DR.nm rfl ?_
  refine DR.ops ?_
  simp -dsimp only [SZ, wantedA, astep, Env.val, Env.vals, Env.put, Env.set, Env.get, envFrom, Env.keep, afaddr, aun, AVal.cells, aundef, if_true, if_false, reduceIte, beq_self_eq_true, Nat.reduceEqDiff, Nat.reduceAdd, Nat.reduceLeDiff, hrem]
  generalize n.tmod 12 = m at hr1 hr2
  cases hneg : decide (m < 0) with
  | true =>
    have hm := of_decide_eq_true hneg
    obtain ⟨k0, hk0⟩ : ∃ k0 : Nat, (k0 : Int) = 0 - m := ⟨(0 - m).toNat, by omega⟩
    have hsub : abin .sub (.int .i64 0) (.int .i64 m) = some (.int .i64 (k0 : Int)) := by rw [hk0]; exact abin_subI (by omega) (by omega)
    refine DR.nm rfl ?_
    refine DR.ops ?_
    simp -dsimp only [SZ, wantedA, astep, Env.val, Env.vals, Env.put, Env.set, Env.get, envFrom, Env.keep, afaddr, aun, AVal.cells, aundef, if_true, if_false, reduceIte, beq_self_eq_true, Nat.reduceEqDiff, Nat.reduceAdd, Nat.reduceLeDiff, abin, hneg]
    refine DR.nm rfl ?_
    refine DR.yes rfl ?_
    refine DR.nm rfl ?_
    refine DR.ops ?_
    simp -dsimp only [SZ, wantedA, astep, Env.val, Env.vals, Env.put, Env.set, Env.get, envFrom, Env.keep, afaddr, aun, AVal.cells, aundef, if_true, if_false, reduceIte, beq_self_eq_true, Nat.reduceEqDiff, Nat.reduceAdd, Nat.reduceLeDiff, hsub]
    exact dec7 (v := v % 1000000000000) (Nat.mod_lt _ (by decide)) (by omega) hp
  | false =>
    have hm := of_decide_eq_false hneg
    obtain ⟨k0, hk0⟩ : ∃ k0 : Nat, m = (k0 : Int) := ⟨m.toNat, by omega⟩
    subst hk0
    refine DR.nm rfl ?_
    refine DR.ops ?_
    simp -dsimp only [SZ, wantedA, astep, Env.val, Env.vals, Env.put, Env.set, Env.get, envFrom, Env.keep, afaddr, aun, AVal.cells, aundef, if_true, if_false, reduceIte, beq_self_eq_true, Nat.reduceEqDiff, Nat.reduceAdd, Nat.reduceLeDiff, abin, hneg]
    refine DR.no rfl ?_
    refine DR.skip ?_
    refine DR.only [1, 2, 12] ?_
    exact dec7 (v := v % 1000000000000) (Nat.mod_lt _ (by decide)) (by omega) hp

theorem g7 {H : AHeap} {u v : Nat} (hu : u < 18446744073709551616) (n : Int) : DCall Tryd.prog 7 [.int .u64 (u : Nat), .int .u64 (v : Nat), .int .i64 n] H fun a H' => a = .bool true := by
  refine DCall.of_body (fn := Tryd.f7) (by kernel_rfl) c7 (by kernel_rfl) (by simp [f7]) ?_
  unfold f7
  simp only []
  refine DR.nm rfl ?_
  refine DR.ops ?_
  simp -dsimp only [SZ, wantedA, astep, Env.val, Env.vals, Env.put, Env.set, Env.get, envFrom, Env.keep, afaddr, aun, AVal.cells, aundef, if_true, if_false, reduceIte, beq_self_eq_true, Nat.reduceEqDiff, Nat.reduceAdd, Nat.reduceLeDiff]
  refine DR.nm rfl ?_
  refine DR.ops ?_
  simp -dsimp only [SZ, wantedA, astep, Env.val, Env.vals, Env.put, Env.set, Env.get, envFrom, Env.keep, afaddr, aun, AVal.cells, aundef, if_true, if_false, reduceIte, beq_self_eq_true, Nat.reduceEqDiff, Nat.reduceAdd, Nat.reduceLeDiff]
  refine (g9 H).mono ?_
  rintro a H ⟨rfl, rfl⟩
  simp -dsimp only [SZ, wantedA, astep, Env.val, Env.vals, Env.put, Env.set, Env.get, envFrom, Env.keep, afaddr, aun, AVal.cells, aundef, if_true, if_false, reduceIte, beq_self_eq_true, Nat.reduceEqDiff, Nat.reduceAdd, Nat.reduceLeDiff]
  refine DR.nm rfl ?_
  refine DR.no rfl ?_
  refine DR.nm rfl ?_
  refine DR.ops ?_
  simp -dsimp only [SZ, wantedA, astep, Env.val, Env.vals, Env.put, Env.set, Env.get, envFrom, Env.keep, afaddr, aun, AVal.cells, aundef, if_true, if_false, reduceIte, beq_self_eq_true, Nat.reduceEqDiff, Nat.reduceAdd, Nat.reduceLeDiff]
  refine DR.nm rfl ?_
  refine DR.ops ?_
  simp -dsimp only [SZ, wantedA, astep, Env.val, Env.vals, Env.put, Env.set, Env.get, envFrom, Env.keep, afaddr, aun, AVal.cells, aundef, if_true, if_false, reduceIte, beq_self_eq_true, Nat.reduceEqDiff, Nat.reduceAdd, Nat.reduceLeDiff]
  refine DR.nm rfl ?_
  refine DR.loop ?_
  refine loop7a (H0 := H) (u := u) hu rfl 16 0 .nils H (by omega) (Out8.new H) ?_
  intro x H1 hO
  have hstr := hO.gr.toStr
  have hcat := cat_small (a := strOf [35]) (b := strOf (hexL u 16)) (by rw [strOf_size, strOf_size, hexL_len]; simp)
  rw [strOf_cat] at hcat
  have hcat : abin .add (.str ⟨#[35]⟩) (.str (strOf (hexL u 16))) = some (.str (hexS u)) := hcat
  have hsz : (hexS u).size = 17 := by unfold hexS; rw [strOf_size, List.length_cons, hexL_len]
  have htk := hexS_tokens hu
  refine DR.nm rfl ?_
  refine DR.ops ?_
  simp -dsimp only [SZ, wantedA, astep, Env.val, Env.vals, Env.put, Env.set, Env.get, envFrom, Env.keep, afaddr, aun, AVal.cells, aundef, if_true, if_false, reduceIte, beq_self_eq_true, Nat.reduceEqDiff, Nat.reduceAdd, Nat.reduceLeDiff, Env.vals, aext, aext1, Int.toNat_natCast]
  refine DR.nm rfl ?_
  refine DR.ops ?_
  simp -dsimp only [SZ, wantedA, astep, Env.val, Env.vals, Env.put, Env.set, Env.get, envFrom, Env.keep, afaddr, aun, AVal.cells, aundef, if_true, if_false, reduceIte, beq_self_eq_true, Nat.reduceEqDiff, Nat.reduceAdd, Nat.reduceLeDiff, hstr, hcat]
  refine (g10 (H := H1) (s := hexS u) (by omega)).mono ?_
  intro r H2 hT
  obtain ⟨y, rfl, hy, oy, n2, f2⟩ := hT.row
  obtain ⟨H3, hH3, g3, n3, f3⟩ := psh H2 (.cells 26 [.int .i64 0, .int .i64 0])
  cases hf : fin u with
  | true =>
    rw [hf, if_pos rfl] at htk
    rw [htk] at hy ⊢
    have st := store_all (n := 2) g3 (new := [.int .i64 0, .int .i64 0]) rfl rfl rfl
    obtain ⟨H4, hH4, g4, n4, f4⟩ := upd g3 (.cells 26 [.int .i64 0, .int .i64 0])
    rw [← hH4] at st
    obtain ⟨id, t, hax, hrx, gx⟩ := RowT.first (l := [tokC 8 ⟨#[]⟩ 0 0 17]) hy
    have hlx := fun H' => hy.len H'
    have hlen2 : ((resRow (.inr [tokC 4 ⟨#[]⟩ 0 u 0, tokC 8 ⟨#[]⟩ 0 0 17])).length : Nat) = 2 := rfl
    rw [hlen2] at hlx
    have hid := hy.lt hrx
    have gx4 := (f4 id (by omega)).trans ((f3 id hid).trans gx)
    have l0 := load_cell gx4 (o := 0) rfl
    have l3 := load_cell gx4 (o := 3) rfl
    have lp := load_all (n := 2) g4 rfl
    have hs : flOr .f64 (FloatKind.f64.format.sub u u) = .flt .f64 0 := by rw [sub_self, hf]; rfl
    have hz : (FloatKind.f64.format.order 0 0 != some Ordering.eq) = false := by decide
    have b1 : abin .neq (.int .i64 ((2 : Nat) : Int)) (.int .i64 2) = some (.bool false) := rfl
    have b2 : abin .neq (.int .i64 4) (.int .i64 4) = some (.bool false) := rfl
    have b3 : abin .neq (.int .u64 (u : Int)) (.int .u64 (u : Int)) = some (.bool false) := by
      simp only [abin]
      rw [if_pos trivial, bne_self_eq_false]
    simp -dsimp only [SZ, wantedA, astep, Env.val, Env.vals, Env.put, Env.set, Env.get, envFrom, Env.keep, afaddr, aun, AVal.cells, aundef, if_true, if_false, reduceIte, beq_self_eq_true, Nat.reduceEqDiff, Nat.reduceAdd, Nat.reduceLeDiff, resErr, ← hH3, st]
    refine DR.nm rfl ?_
    refine DR.ops ?_
    simp -dsimp only [SZ, wantedA, astep, Env.val, Env.vals, Env.put, Env.set, Env.get, envFrom, Env.keep, afaddr, aun, AVal.cells, aundef, if_true, if_false, reduceIte, beq_self_eq_true, Nat.reduceEqDiff, Nat.reduceAdd, Nat.reduceLeDiff, abin, hs, hz]
    refine DR.nm rfl ?_
    refine DR.no rfl ?_
    refine DR.nm rfl ?_
    refine DR.ops ?_
    simp -dsimp only [SZ, wantedA, astep, Env.val, Env.vals, Env.put, Env.set, Env.get, envFrom, Env.keep, afaddr, aun, AVal.cells, aundef, if_true, if_false, reduceIte, beq_self_eq_true, Nat.reduceEqDiff, Nat.reduceAdd, Nat.reduceLeDiff, lp, aeqs, hlx, b1, hax, l0, b2, l3, b3, afill, Env.parts, Env.vals, aext, aext0]
    refine DR.nm rfl ?_
    refine DR.no rfl ?_
    refine DR.skip ?_
    refine DR.only [1, 2, 12] ?_
    exact half7 g4
  | false =>
    rw [hf, if_neg (by simp)] at htk
    rw [htk] at hy ⊢
    have st := store_all (n := 2) g3 (new := [.int .i64 22, .int .i64 0]) rfl rfl rfl
    obtain ⟨H4, hH4, g4, n4, f4⟩ := upd g3 (.cells 26 [.int .i64 22, .int .i64 0])
    rw [← hH4] at st
    have l0 := load_cell g4 (o := 0) (v := .int .i64 22) rfl
    have l1 := load_cell g4 (o := 1) (v := .int .i64 0) rfl
    have hs : flOr .f64 (FloatKind.f64.format.sub u u) = .nan .f64 := by rw [sub_self, hf]; rfl
    have b1 : abin .neq (.int .i64 22) (.int .i64 22) = some (.bool false) := rfl
    have b2 : abin .neq (.int .i64 0) (.int .i64 0) = some (.bool false) := rfl
    simp -dsimp only [SZ, wantedA, astep, Env.val, Env.vals, Env.put, Env.set, Env.get, envFrom, Env.keep, afaddr, aun, AVal.cells, aundef, if_true, if_false, reduceIte, beq_self_eq_true, Nat.reduceEqDiff, Nat.reduceAdd, Nat.reduceLeDiff, resErr, ← hH3, st]
    refine DR.nm rfl ?_
    refine DR.ops ?_
    simp -dsimp only [SZ, wantedA, astep, Env.val, Env.vals, Env.put, Env.set, Env.get, envFrom, Env.keep, afaddr, aun, AVal.cells, aundef, if_true, if_false, reduceIte, beq_self_eq_true, Nat.reduceEqDiff, Nat.reduceAdd, Nat.reduceLeDiff, abin, hs, nanCmp]
    refine DR.nm rfl ?_
    refine DR.yes rfl ?_
    refine DR.nm rfl ?_
    refine DR.ops ?_
    simp -dsimp only [SZ, wantedA, astep, Env.val, Env.vals, Env.put, Env.set, Env.get, envFrom, Env.keep, afaddr, aun, AVal.cells, aundef, if_true, if_false, reduceIte, beq_self_eq_true, Nat.reduceEqDiff, Nat.reduceAdd, Nat.reduceLeDiff, l0, l1, b1, b2]
    refine DR.nm rfl ?_
    refine DR.no rfl ?_
    refine DR.skip ?_
    refine DR.only [1, 2, 12] ?_
    exact half7 g4
end Go.Am.Rl

