/- LexFloats: its loops. -/
import Derived.Test.YtmoimchdhgoeeaaDoorV31
set_option linter.unusedVariables false
set_option linter.unusedSimpArgs false
namespace Go.Am.Rl
open Go.Proofs

theorem abin_shrU {q i : Nat} (hi : i ≤ 60) : abin .shr (.int .u64 (q : Nat)) (.int .u64 (i : Nat)) = some (.int .u64 ((q / 2 ^ i : Nat) : Int)) := by
  have hb : IntKind.u64.bits = 64 := by decide
  simp only [abin]
  rw [if_neg (by omega), Int.toNat_natCast, hb, Nat.min_eq_left (by omega)]
  congr 2
  rw [Int.fdiv_eq_ediv_of_nonneg _ (Int.pow_nonneg (by omega)), Int.natCast_ediv, Int.natCast_pow]; rfl
theorem abin_and15 {q : Nat} (hq : q < 18446744073709551616) : abin .and (.int .u64 (q : Nat)) (.int .u64 15) = some (.int .u64 ((q % 16 : Nat) : Int)) := by
  have hb : IntKind.u64.bits = 64 := by decide
  simp only [abin]
  rw [if_pos trivial, hb]
  have h1 : (BitVec.ofInt 64 (q : Int) &&& BitVec.ofInt 64 15).toNat = q % 16 := by
    have e : (15 : Int) = ((15 : Nat) : Int) := rfl
    rw [BitVec.toNat_and, BitVec.ofInt_natCast, e, BitVec.ofInt_natCast, BitVec.toNat_ofNat, BitVec.toNat_ofNat, Nat.mod_eq_of_lt (by omega), Nat.mod_eq_of_lt (by omega)]
    exact Nat.and_two_pow_sub_one_eq_mod q 4
  rw [h1, wrapU64 (by omega)]
theorem abin_add8 {a b : Nat} (h : a + b < 256) : abin .add (.int .u8 (a : Nat)) (.int .u8 (b : Nat)) = some (.int .u8 ((a + b : Nat) : Int)) := by
  simp only [abin]
  rw [if_pos trivial, ← Int.natCast_add, wrapU8 h]
theorem abin_sub8n {a b : Nat} (h : a < 256) (hb : b ≤ a) : abin .sub (.int .u8 (a : Nat)) (.int .u8 (b : Nat)) = some (.int .u8 ((a - b : Nat) : Int)) := by
  simp only [abin]
  rw [if_pos trivial, ← Int.ofNat_sub hb, wrapU8 (by omega)]
theorem abin_subI {a b : Int} (h1 : -1000000 ≤ a - b) (h2 : a - b ≤ 1000000) : abin .sub (.int .i64 a) (.int .i64 b) = some (.int .i64 (a - b)) := by
  simp only [abin]
  rw [if_pos trivial, IntKind.wrap_i64]
  congr 2; omega
theorem hexc_cases {d : Nat} (h : d < 16) : (d < 10 ∧ hexc d = 48 + d) ∨ (¬ d < 10 ∧ hexc d = 97 + d - 10) := by
  unfold hexc
  split <;> omega

section
variable {H0 : AHeap} {u : Nat} {v1 v2 : AVal} {k k' : List AItem} {Q : Env → AHeap → Prop}
theorem loop7a (hu : u < 18446744073709551616) (hk : aexitTo 0 k = some k') :
    ∀ (d j : Nat) (x : AVal) (H : AHeap), j + d = 16 → Out8 H0 H x (hexL u j) →
      (∀ x' H', Out8 H0 H' x' (hexL u 16) → DR Tryd.prog (kof k7) 166 k' [(0, .int .u64 (u : Nat)), (1, v1), (2, v2), (7, x')] H' Q) →
      DR Tryd.prog (kof k7) 166 (.code l7_0 :: .inLoop l7_0 :: k) [(0, .int .u64 (u : Nat)), (1, v1), (2, v2), (7, x), (8, .int .i64 (60 - 4 * (j : Int)))] H Q := by
  intro d
  induction d with
  | zero =>
    intro j x H hj hO hend
    obtain rfl : j = 16 := by omega
    have hc : decide ((60 - 4 * ((16 : Nat) : Int)) ≥ 0) = false := by decide
    refine DR.nm rfl ?_
    refine DR.ops ?_
    simp -dsimp only [SZ, wantedA, astep, Env.val, Env.vals, Env.put, Env.set, Env.get, envFrom, Env.keep, afaddr, aun, AVal.cells, aundef, if_true, if_false, reduceIte, beq_self_eq_true, Nat.reduceEqDiff, Nat.reduceAdd, Nat.reduceLeDiff, abin, hc]
    refine DR.nm rfl ?_
    refine DR.no rfl ?_
    refine DR.exit (k' := k') (by simpa [aexitTo] using hk) ?_
    exact DR.only [0, 1, 2, 7] (hend x H hO)
  | succ d ih =>
    intro j x H hj hO hend
    have hc : decide ((60 - 4 * (j : Int)) ≥ 0) = true := decide_eq_true (by omega)
    obtain ⟨i, hi⟩ : ∃ i : Nat, i = 60 - 4 * j := ⟨_, rfl⟩
    have hij : (60 - 4 * (j : Int)) = (i : Int) := by omega
    have hwi : IntKind.u64.wrap (i : Int) = (i : Int) := wrapU64 (by omega)
    have hsh := abin_shrU (q := u) (i := i) (by omega)
    have hle : u / 2 ^ i ≤ u := Nat.div_le_self _ _
    have han := abin_and15 (q := u / 2 ^ i) (by omega)
    have hpw : 2 ^ i = 16 ^ (15 - j) := by
      have : i = 4 * (15 - j) := by omega
      rw [this, Nat.pow_mul]
    have hdd : u / 2 ^ i % 16 = hexd u j := by unfold hexd; rw [hpw]
    rw [hdd] at han
    have hdl : hexd u j < 16 := Nat.mod_lt _ (by decide)
    obtain ⟨e, he⟩ : ∃ e, e = hexd u j := ⟨_, rfl⟩
    rw [← he] at han hdl
    have hw8 : IntKind.u8.wrap (e : Int) = (e : Int) := wrapU8 (by omega)
    have hns : hexL u (j + 1) = hexL u j ++ [((hexc e : Nat) : Int)] := by rw [hexL_succ, he]
    have hs4 : abin .sub (.int .i64 (i : Int)) (.int .i64 4) = some (.int .i64 (60 - 4 * ((j + 1 : Nat) : Int))) := by
      rw [abin_subI (by omega) (by omega)]; congr 2; omega
    obtain ⟨x', H', ha, hO'⟩ := hO.push ((hexc e : Nat) : Int) (by rw [hexL_len]; omega)
    rw [← hns] at hO'
    rw [hij]
    have hge : decide ((i : Int) ≥ 0) = true := decide_eq_true (by omega)
    refine DR.nm rfl ?_
    refine DR.ops ?_
    simp -dsimp only [SZ, wantedA, astep, Env.val, Env.vals, Env.put, Env.set, Env.get, envFrom, Env.keep, afaddr, aun, AVal.cells, aundef, if_true, if_false, reduceIte, beq_self_eq_true, Nat.reduceEqDiff, Nat.reduceAdd, Nat.reduceLeDiff, abin, hge]
    refine DR.nm rfl ?_
    refine DR.yes rfl ?_
    refine DR.nm rfl ?_
    refine DR.ops ?_
    simp -dsimp only [SZ, wantedA, astep, Env.val, Env.vals, Env.put, Env.set, Env.get, envFrom, Env.keep, afaddr, aun, AVal.cells, aundef, if_true, if_false, reduceIte, beq_self_eq_true, Nat.reduceEqDiff, Nat.reduceAdd, Nat.reduceLeDiff, hwi, hsh, han, hw8]
    rcases hexc_cases hdl with ⟨hlt, hh⟩ | ⟨hlt, hh⟩
    · have hc10 : decide ((e : Int) < 10) = true := decide_eq_true (by omega)
      have hadd : abin .add (.int .u8 48) (.int .u8 (e : Int)) = some (.int .u8 ((hexc e : Nat) : Int)) := by rw [hh]; exact abin_add8 (a := 48) (b := e) (by omega)
      refine DR.nm rfl ?_
      refine DR.ops ?_
      simp -dsimp only [SZ, wantedA, astep, Env.val, Env.vals, Env.put, Env.set, Env.get, envFrom, Env.keep, afaddr, aun, AVal.cells, aundef, if_true, if_false, reduceIte, beq_self_eq_true, Nat.reduceEqDiff, Nat.reduceAdd, Nat.reduceLeDiff, abin, hc10]
      refine DR.nm rfl ?_
      refine DR.yes rfl ?_
      refine DR.nm rfl ?_
      refine DR.ops ?_
      simp -dsimp only [SZ, wantedA, astep, Env.val, Env.vals, Env.put, Env.set, Env.get, envFrom, Env.keep, afaddr, aun, AVal.cells, aundef, if_true, if_false, reduceIte, beq_self_eq_true, Nat.reduceEqDiff, Nat.reduceAdd, Nat.reduceLeDiff, hadd, Env.parts, afill, LZ, List.drop_one, List.tail_cons, ha]
      refine DR.nm rfl ?_
      refine DR.ops ?_
      simp -dsimp only [SZ, wantedA, astep, Env.val, Env.vals, Env.put, Env.set, Env.get, envFrom, Env.keep, afaddr, aun, AVal.cells, aundef, if_true, if_false, reduceIte, beq_self_eq_true, Nat.reduceEqDiff, Nat.reduceAdd, Nat.reduceLeDiff, hs4]
      refine DR.nm rfl ?_
      refine DR.inLoop ?_
      exact ih (j + 1) x' H' (by omega) hO' hend
    · have hc10 : decide ((e : Int) < 10) = false := decide_eq_false (by omega)
      have hadd : abin .add (.int .u8 97) (.int .u8 (e : Int)) = some (.int .u8 ((97 + e : Nat) : Int)) := abin_add8 (a := 97) (b := e) (by omega)
      have hsub : abin .sub (.int .u8 ((97 + e : Nat) : Int)) (.int .u8 10) = some (.int .u8 ((hexc e : Nat) : Int)) := by rw [hh]; exact abin_sub8n (a := 97 + e) (b := 10) (by omega) (by omega)
      refine DR.nm rfl ?_
      refine DR.ops ?_
      simp -dsimp only [SZ, wantedA, astep, Env.val, Env.vals, Env.put, Env.set, Env.get, envFrom, Env.keep, afaddr, aun, AVal.cells, aundef, if_true, if_false, reduceIte, beq_self_eq_true, Nat.reduceEqDiff, Nat.reduceAdd, Nat.reduceLeDiff, abin, hc10]
      refine DR.nm rfl ?_
      refine DR.no rfl ?_
      refine DR.nm rfl ?_
      refine DR.ops ?_
      simp -dsimp only [SZ, wantedA, astep, Env.val, Env.vals, Env.put, Env.set, Env.get, envFrom, Env.keep, afaddr, aun, AVal.cells, aundef, if_true, if_false, reduceIte, beq_self_eq_true, Nat.reduceEqDiff, Nat.reduceAdd, Nat.reduceLeDiff, hadd, hsub, Env.parts, afill, LZ, List.drop_one, List.tail_cons, ha]
      refine DR.nm rfl ?_
      refine DR.ops ?_
      simp -dsimp only [SZ, wantedA, astep, Env.val, Env.vals, Env.put, Env.set, Env.get, envFrom, Env.keep, afaddr, aun, AVal.cells, aundef, if_true, if_false, reduceIte, beq_self_eq_true, Nat.reduceEqDiff, Nat.reduceAdd, Nat.reduceLeDiff, hs4]
      refine DR.nm rfl ?_
      refine DR.inLoop ?_
      exact ih (j + 1) x' H' (by omega) hO' hend
end

theorem one_str {H : AHeap} {c : Int} : abytesStr (H.push (.cells 5 [.int .u8 c])) (.sl H.next 0 1 (some 1)) = some (.str (strOf [c])) := by
  have g : (H.push (.cells 5 [.int .u8 c])).get H.next = some (.cells 5 [.int .u8 c]) := by rw [AHeap.get_push, if_pos rfl]
  refine row_str (l := [c]) ⟨?_, rfl, ?_, rfl, rfl⟩
  · simp only [sliceCells, g]
    rw [if_pos (by simp)]; rfl
  · simp [rowOf, g]
theorem rem10 (n : Nat) : abin .rem (.int .u64 (n : Nat)) (.int .u64 10) = some (.int .u64 ((n % 10 : Nat) : Int)) := by
  have h : ¬ ((10 : Int) = 0) := by decide
  simp only [abin]
  rw [if_pos trivial, if_neg h, Int.tmod_eq_emod_of_nonneg (by omega)]; rfl
theorem quo10 {n : Nat} (hn : n < 18446744073709551616) : abin .quo (.int .u64 (n : Nat)) (.int .u64 10) = some (.int .u64 ((n / 10 : Nat) : Int)) := by
  have h : ¬ ((10 : Int) = 0) := by decide
  have hd : n / 10 ≤ n := Nat.div_le_self _ _
  simp only [abin]
  rw [if_pos trivial, if_neg h, Int.tdiv_eq_ediv_of_nonneg (by omega)]
  have e : (n : Int) / 10 = ((n / 10 : Nat) : Int) := by omega
  rw [e, wrapU64 (by omega)]
theorem add48 {d : Nat} (h : d < 10) : abin .add (.int .u64 48) (.int .u64 (d : Nat)) = some (.int .u64 ((48 + d : Nat) : Int)) := by
  simp only [abin]
  have e : (48 : Int) + (d : Int) = ((48 + d : Nat) : Int) := by omega
  rw [if_pos trivial, e, wrapU64 (by omega)]
theorem fold_step {n v : Nat} {acc : List Int} (h : acc.foldl stepN n = v) : (((48 + n % 10 : Nat) : Int) :: acc).foldl stepN (n / 10) = v := by
  rw [List.foldl_cons]
  have : stepN (n / 10) ((48 + n % 10 : Nat) : Int) = n := by unfold stepN; omega
  rw [this]; exact h
theorem dig_mod (n : Nat) : digOk ((48 + n % 10 : Nat) : Int) := by unfold digOk; omega

section
variable {H0 : AHeap} {v p k0 : Nat} {b0 : ABlk} {v1 : AVal} {k k' : List AItem} {Q : Env → AHeap → Prop}
/-- What the loops keep. -/
def Inv7 (v : Nat) (fl : List Int) (n : Nat) (acc : List Int) : Prop := (acc ++ fl).foldl stepN n = v ∧ (∀ c ∈ acc, digOk c) ∧ n < 1000000000000
theorem loop7b (hk0 : k0 < 12) (hk : aexitTo 2 k = some k') :
    ∀ (d i n : Nat) (acc : List Int) (H : AHeap), i + d = k0 + 1 → Inv7 v [] n acc → acc.length = i → n < 10 ^ (12 - i) → H.get p = some b0 →
      (∀ n' acc' H', Inv7 v [] n' acc' → acc'.length = k0 + 1 → n' < 10 ^ (12 - (k0 + 1)) → H'.get p = some b0 → DR Tryd.prog (kof k7) 166 k' [(1, v1), (12, .ptr p 0), (13, .str (strOf acc')), (14, .int .u64 (n' : Nat)), (15, .flt .f64 (ten10 k0))] H' Q) →
      DR Tryd.prog (kof k7) 166 (.code l7_1 :: .inLoop l7_1 :: k) [(1, v1), (2, .int .i64 (k0 : Nat)), (12, .ptr p 0), (13, .str (strOf acc)), (14, .int .u64 (n : Nat)), (15, .flt .f64 (ten10 (min i k0))), (16, .int .i64 (i : Nat))] H Q := by
  intro d
  induction d with
  | zero =>
    intro i n acc H hi hI hl hn hp hend
    have hc : decide ((i : Int) ≤ (k0 : Int)) = false := decide_eq_false (by omega)
    have hmin : min i k0 = k0 := by omega
    rw [hmin]
    refine DR.nm rfl ?_
    refine DR.ops ?_
    simp -dsimp only [SZ, wantedA, astep, Env.val, Env.vals, Env.put, Env.set, Env.get, envFrom, Env.keep, afaddr, aun, AVal.cells, aundef, if_true, if_false, reduceIte, beq_self_eq_true, Nat.reduceEqDiff, Nat.reduceAdd, Nat.reduceLeDiff, abin, hc]
    refine DR.nm rfl ?_
    refine DR.no rfl ?_
    refine DR.exit (k' := k') (by simpa [aexitTo] using hk) ?_
    exact DR.only [1, 12, 13, 14, 15] (hend n acc H hI (by omega) (by have : 12 - i = 12 - (k0 + 1) := by omega
                                                                      rw [← this]; exact hn) hp)
  | succ d ih =>
    intro i n acc H hi hI hl hn hp hend
    have hc : decide ((i : Int) ≤ (k0 : Int)) = true := decide_eq_true (by omega)
    obtain ⟨h1, h2, h3⟩ := hI
    have hw8 : IntKind.u8.wrap ((48 + n % 10 : Nat) : Int) = ((48 + n % 10 : Nat) : Int) := wrapU8 (by omega)
    have hcat := cat_small (a := strOf [((48 + n % 10 : Nat) : Int)]) (b := strOf acc) (by rw [strOf_size, strOf_size]; simp; omega)
    rw [strOf_cat] at hcat
    obtain ⟨H1, hH1, g1, n1, f1⟩ := psh H (.cells 5 [.int .u8 ((48 + n % 10 : Nat) : Int)])
    have hos := one_str (H := H) (c := ((48 + n % 10 : Nat) : Int))
    rw [← hH1] at hos
    have hw : IntKind.i64.wrap ((i : Int) + 1) = ((i + 1 : Nat) : Int) := wrap64 (n := i + 1) (by omega)
    have hI' : Inv7 v [] (n / 10) (((48 + n % 10 : Nat) : Int) :: acc) := by
      refine ⟨?_, fun c hc => ?_, by omega⟩
      · rw [List.append_nil] at h1 ⊢; exact fold_step h1
      · rcases List.mem_cons.mp hc with rfl | hc
        · exact dig_mod n
        · exact h2 c hc
    have hn' : n / 10 < 10 ^ (12 - (i + 1)) := by
      have e : 12 - i = (12 - (i + 1)) + 1 := by omega
      rw [e, Nat.pow_succ] at hn
      omega
    have hp1 : H1.get p = some b0 := (f1 p (AHeap.get_lt hp)).trans hp
    refine DR.nm rfl ?_
    refine DR.ops ?_
    simp -dsimp only [SZ, wantedA, astep, Env.val, Env.vals, Env.put, Env.set, Env.get, envFrom, Env.keep, afaddr, aun, AVal.cells, aundef, if_true, if_false, reduceIte, beq_self_eq_true, Nat.reduceEqDiff, Nat.reduceAdd, Nat.reduceLeDiff, abin, hc]
    refine DR.nm rfl ?_
    refine DR.yes rfl ?_
    refine DR.nm rfl ?_
    refine DR.ops ?_
    simp -dsimp only [SZ, wantedA, astep, Env.val, Env.vals, Env.put, Env.set, Env.get, envFrom, Env.keep, afaddr, aun, AVal.cells, aundef, if_true, if_false, reduceIte, beq_self_eq_true, Nat.reduceEqDiff, Nat.reduceAdd, Nat.reduceLeDiff, rem10, add48 (Nat.mod_lt n (show 10 > 0 by decide)), hw8, Env.parts, afill, LZ, List.drop_one, List.tail_cons, ← hH1, hos, hcat]
    refine DR.nm rfl ?_
    refine DR.ops ?_
    simp -dsimp only [SZ, wantedA, astep, Env.val, Env.vals, Env.put, Env.set, Env.get, envFrom, Env.keep, afaddr, aun, AVal.cells, aundef, if_true, if_false, reduceIte, beq_self_eq_true, Nat.reduceEqDiff, Nat.reduceAdd, Nat.reduceLeDiff, quo10 (show n < 18446744073709551616 by omega)]
    refine DR.nm rfl ?_
    refine DR.ops ?_
    simp -dsimp only [SZ, wantedA, astep, Env.val, Env.vals, Env.put, Env.set, Env.get, envFrom, Env.keep, afaddr, aun, AVal.cells, aundef, if_true, if_false, reduceIte, beq_self_eq_true, Nat.reduceEqDiff, Nat.reduceAdd, Nat.reduceLeDiff, abin]
    by_cases hlt : i < k0
    · have hc2 : decide ((i : Int) < (k0 : Int)) = true := decide_eq_true (by omega)
      have e1 : min i k0 = i := by omega
      have e2 : min (i + 1) k0 = i + 1 := by omega
      rw [hc2]
      refine DR.nm rfl ?_
      refine DR.yes rfl ?_
      rw [e1]
      refine DR.nm rfl ?_
      refine DR.ops ?_
      simp -dsimp only [SZ, wantedA, astep, Env.val, Env.vals, Env.put, Env.set, Env.get, envFrom, Env.keep, afaddr, aun, AVal.cells, aundef, if_true, if_false, reduceIte, beq_self_eq_true, Nat.reduceEqDiff, Nat.reduceAdd, Nat.reduceLeDiff, abin_ten (show i < 15 by omega)]
      refine DR.nm rfl ?_
      refine DR.ops ?_
      simp -dsimp only [SZ, wantedA, astep, Env.val, Env.vals, Env.put, Env.set, Env.get, envFrom, Env.keep, afaddr, aun, AVal.cells, aundef, if_true, if_false, reduceIte, beq_self_eq_true, Nat.reduceEqDiff, Nat.reduceAdd, Nat.reduceLeDiff, abin_addI, hw]
      refine DR.nm rfl ?_
      refine DR.inLoop ?_
      have := ih (i + 1) (n / 10) _ H1 (by omega) hI' (by simp; omega) hn' hp1 hend
      rw [e2] at this
      exact this
    · have hc2 : decide ((i : Int) < (k0 : Int)) = false := decide_eq_false (by omega)
      have e2 : min (i + 1) k0 = min i k0 := by omega
      rw [hc2]
      refine DR.nm rfl ?_
      refine DR.no rfl ?_
      refine DR.nm rfl ?_
      refine DR.ops ?_
      simp -dsimp only [SZ, wantedA, astep, Env.val, Env.vals, Env.put, Env.set, Env.get, envFrom, Env.keep, afaddr, aun, AVal.cells, aundef, if_true, if_false, reduceIte, beq_self_eq_true, Nat.reduceEqDiff, Nat.reduceAdd, Nat.reduceLeDiff, abin_addI, hw]
      refine DR.nm rfl ?_
      refine DR.inLoop ?_
      have := ih (i + 1) (n / 10) _ H1 (by omega) hI' (by simp; omega) hn' hp1 hend
      rw [e2] at this
      exact this
theorem loop7c {fl : List Int} {v13 v15 : AVal} {M : Nat} (hM : M < 20) (hk : aexitTo 4 k = some k') :
    ∀ (m n : Nat) (acc : List Int) (H : AHeap), n < 10 ^ m → acc.length + m ≤ M → Inv7 v fl n acc → (n = 0 → 1 ≤ acc.length ∧ ∀ c, 1 < acc.length → acc[0]? = some c → c ≠ 48) → H.get p = some b0 →
      (∀ acc' H', Inv7 v fl 0 acc' → acc'.length ≤ M → 1 ≤ acc'.length → (∀ c, 1 < acc'.length → acc'[0]? = some c → c ≠ 48) → H'.get p = some b0 → DR Tryd.prog (kof k7) 166 k' [(1, v1), (12, .ptr p 0), (13, v13), (15, v15), (17, .str (strOf acc'))] H' Q) →
      DR Tryd.prog (kof k7) 166 (.code l7_2 :: .inLoop l7_2 :: k) [(1, v1), (12, .ptr p 0), (13, v13), (14, .int .u64 (n : Nat)), (15, v15), (17, .str (strOf acc))] H Q := by
  intro m
  induction m with
  | zero =>
    intro n acc H hn hl hI h0 hp hend
    obtain rfl : n = 0 := by simpa using hn
    have hc : decide (((0 : Nat) : Int) > 0) = false := by decide
    obtain ⟨a1, a2⟩ := h0 rfl
    refine DR.nm rfl ?_
    refine DR.ops ?_
    simp -dsimp only [SZ, wantedA, astep, Env.val, Env.vals, Env.put, Env.set, Env.get, envFrom, Env.keep, afaddr, aun, AVal.cells, aundef, if_true, if_false, reduceIte, beq_self_eq_true, Nat.reduceEqDiff, Nat.reduceAdd, Nat.reduceLeDiff, abin, hc]
    refine DR.nm rfl ?_
    refine DR.no rfl ?_
    refine DR.exit (k' := k') (by simpa [aexitTo] using hk) ?_
    exact DR.only [1, 12, 13, 15, 17] (hend acc H hI (by omega) a1 a2 hp)
  | succ m ih =>
    intro n acc H hn hl hI h0 hp hend
    rcases Nat.eq_zero_or_pos n with rfl | hpos
    · have hc : decide (((0 : Nat) : Int) > 0) = false := by decide
      obtain ⟨a1, a2⟩ := h0 rfl
      refine DR.nm rfl ?_
      refine DR.ops ?_
      simp -dsimp only [SZ, wantedA, astep, Env.val, Env.vals, Env.put, Env.set, Env.get, envFrom, Env.keep, afaddr, aun, AVal.cells, aundef, if_true, if_false, reduceIte, beq_self_eq_true, Nat.reduceEqDiff, Nat.reduceAdd, Nat.reduceLeDiff, abin, hc]
      refine DR.nm rfl ?_
      refine DR.no rfl ?_
      refine DR.exit (k' := k') (by simpa [aexitTo] using hk) ?_
      exact DR.only [1, 12, 13, 15, 17] (hend acc H hI (by omega) a1 a2 hp)
    · have hc : decide ((n : Int) > 0) = true := decide_eq_true (by omega)
      obtain ⟨h1, h2, h3⟩ := hI
      have hw8 : IntKind.u8.wrap ((48 + n % 10 : Nat) : Int) = ((48 + n % 10 : Nat) : Int) := wrapU8 (by omega)
      have hcat := cat_small (a := strOf [((48 + n % 10 : Nat) : Int)]) (b := strOf acc) (by rw [strOf_size, strOf_size]; simp; omega)
      rw [strOf_cat] at hcat
      obtain ⟨H1, hH1, g1, n1, f1⟩ := psh H (.cells 5 [.int .u8 ((48 + n % 10 : Nat) : Int)])
      have hos := one_str (H := H) (c := ((48 + n % 10 : Nat) : Int))
      rw [← hH1] at hos
      have hI' : Inv7 v fl (n / 10) (((48 + n % 10 : Nat) : Int) :: acc) := by
        refine ⟨fold_step h1, fun c hc => ?_, by omega⟩
        rcases List.mem_cons.mp hc with rfl | hc
        · exact dig_mod n
        · exact h2 c hc
      have hn' : n / 10 < 10 ^ m := by rw [Nat.pow_succ] at hn; omega
      have hp1 : H1.get p = some b0 := (f1 p (AHeap.get_lt hp)).trans hp
      refine DR.nm rfl ?_
      refine DR.ops ?_
      simp -dsimp only [SZ, wantedA, astep, Env.val, Env.vals, Env.put, Env.set, Env.get, envFrom, Env.keep, afaddr, aun, AVal.cells, aundef, if_true, if_false, reduceIte, beq_self_eq_true, Nat.reduceEqDiff, Nat.reduceAdd, Nat.reduceLeDiff, abin, hc]
      refine DR.nm rfl ?_
      refine DR.yes rfl ?_
      refine DR.nm rfl ?_
      refine DR.ops ?_
      simp -dsimp only [SZ, wantedA, astep, Env.val, Env.vals, Env.put, Env.set, Env.get, envFrom, Env.keep, afaddr, aun, AVal.cells, aundef, if_true, if_false, reduceIte, beq_self_eq_true, Nat.reduceEqDiff, Nat.reduceAdd, Nat.reduceLeDiff, rem10, add48 (Nat.mod_lt n (show 10 > 0 by decide)), hw8, Env.parts, afill, LZ, List.drop_one, List.tail_cons, ← hH1, hos, hcat]
      refine DR.nm rfl ?_
      refine DR.ops ?_
      simp -dsimp only [SZ, wantedA, astep, Env.val, Env.vals, Env.put, Env.set, Env.get, envFrom, Env.keep, afaddr, aun, AVal.cells, aundef, if_true, if_false, reduceIte, beq_self_eq_true, Nat.reduceEqDiff, Nat.reduceAdd, Nat.reduceLeDiff, quo10 (show n < 18446744073709551616 by omega)]
      refine DR.nm rfl ?_
      refine DR.inLoop ?_
      refine ih (n / 10) _ H1 hn' (by simp; omega) hI' (fun hz => ⟨by simp, fun c _ hc => ?_⟩) hp1 hend
      rw [List.cons_append, List.nil_append, List.getElem?_cons_zero] at hc
      injection hc with hc; subst hc
      have : n % 10 = n := by omega
      omega
end
end Go.Am.Rl

