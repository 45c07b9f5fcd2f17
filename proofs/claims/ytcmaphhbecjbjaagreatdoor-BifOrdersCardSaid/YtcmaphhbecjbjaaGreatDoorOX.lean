/- Parts: FT, FU, OA, OB, OC. -/
import Derived.Test.YtcmaphhbecjbjaaGreatDoorAmR
import Derived.Test.YtcmaphhbecjbjaaGreatDoorBP
import Derived.Test.YtcmaphhbecjbjaaGreatDoorBQ
import Derived.Test.YtcmaphhbecjbjaaGreatDoorFnO
import Derived.Test.YtcmaphhbecjbjaaGreatDoorBM
set_option linter.unusedVariables false
set_option linter.unusedSimpArgs false
set_option maxRecDepth 20000
/- A float that is within the whole numbers, made whole: it is one of them. -/
namespace Go.Am.Rl

theorem w64s : FloatKind.f64.format.signWeight = 9223372036854775808 := by decide
theorem w64b : FloatKind.f64.format.binade = 4503599627370496 := by decide
theorem w64i : FloatKind.f64.format.infRung = 9218868437227405312 := by decide
theorem w64l : FloatKind.f64.format.leastPlace = -1074 := by decide
theorem w64f : FloatKind.f64.format.fractionBits = 52 := by decide
theorem cut0 (w : Ieee.Toward) (s : Bool) (n : Nat) : w.cut s n 0 = n := by
  cases w <;> simp [Ieee.Toward.cut, Nat.mod_one]
theorem cutZ_le (s : Bool) (n d : Nat) : Ieee.Toward.zero.cut s n d ≤ n := by
  simp only [Ieee.Toward.cut, Bool.toNat_false, Nat.add_zero]
  exact Nat.div_le_self _ _
theorem kept_small {q : Nat} (h0 : 0 < q) (hL : q.log2 ≤ 52) : 4503599627370496 ≤ q <<< (52 - q.log2) ∧ q <<< (52 - q.log2) < 9007199254740992 := by
  have h1 := Nat.log2_self_le (n := q) (by omega)
  have h2 := Nat.lt_log2_self (n := q)
  rw [Nat.shiftLeft_eq]
  have e : 2 ^ q.log2 * 2 ^ (52 - q.log2) = 4503599627370496 := by rw [← Nat.pow_add, show q.log2 + (52 - q.log2) = 52 by omega]
  have e2 : 2 ^ (q.log2 + 1) * 2 ^ (52 - q.log2) = 9007199254740992 := by rw [← Nat.pow_add, show q.log2 + 1 + (52 - q.log2) = 53 by omega]
  constructor
  · rw [← e]; exact Nat.mul_le_mul_right _ h1
  · rw [← e2]; exact Nat.mul_lt_mul_of_pos_right h2 (Nat.two_pow_pos _)
theorem kept_big {q : Nat} (hL : 52 < q.log2) : 4503599627370496 ≤ q / 2 ^ (q.log2 - 52) ∧ q / 2 ^ (q.log2 - 52) < 9007199254740992 := by
  have h0 : q ≠ 0 := by intro h; subst h; simp at hL
  have h1 := Nat.log2_self_le (n := q) h0
  have h2 := Nat.lt_log2_self (n := q)
  have e : 4503599627370496 * 2 ^ (q.log2 - 52) = 2 ^ q.log2 := by rw [show (4503599627370496 : Nat) = 2 ^ 52 by decide, ← Nat.pow_add, show 52 + (q.log2 - 52) = q.log2 by omega]
  have e2 : 9007199254740992 * 2 ^ (q.log2 - 52) = 2 ^ (q.log2 + 1) := by rw [show (9007199254740992 : Nat) = 2 ^ 53 by decide, ← Nat.pow_add, show 53 + (q.log2 - 52) = q.log2 + 1 by omega]
  constructor
  · rw [Nat.le_div_iff_mul_le (Nat.two_pow_pos _), e]; exact h1
  · rw [Nat.div_lt_iff_lt_mul (Nat.two_pow_pos _), e2]; exact h2
/-- Near a whole number that is a float: it. -/
theorem nearest_is (s : Bool) {q : Nat} (h0 : 0 < q) (hL : q.log2 ≤ 63) (hd : 52 < q.log2 → q % 2 ^ (q.log2 - 52) = 0) :
    ∃ kept, 4503599627370496 ≤ kept ∧ kept < 9007199254740992 ∧ FloatKind.f64.format.nearest s q 0 = FloatKind.f64.format.word s ((q.log2 + 1022) * 4503599627370496 + kept) ∧ (52 < q.log2 → kept * 2 ^ (q.log2 - 52) ≤ q) := by
  unfold Ieee.Format.nearest
  rw [if_neg (by omega)]
  simp only [w64f, w64l, w64b, w64i]
  have hlast : max ((0 : Int) + (q.log2 : Int) - ((52 : Nat) : Int)) (-1074) = (q.log2 : Int) - 52 := by omega
  rw [hlast]
  have hr : ((q.log2 : Int) - 52 - -1074).toNat = q.log2 + 1022 := by omega
  rw [hr]
  by_cases h : q.log2 ≤ 52
  · have e1 : ((0 : Int) - ((q.log2 : Int) - 52)).toNat = 52 - q.log2 := by omega
    have e2 : ((q.log2 : Int) - 52 - 0).toNat = 0 := by omega
    rw [e1, e2, cut0]
    obtain ⟨k1, k2⟩ := kept_small h0 h
    exact ⟨_, k1, k2, by rw [Nat.min_eq_left (by omega)], fun h' => by omega⟩
  · have h := Nat.lt_of_not_le h
    have e1 : ((0 : Int) - ((q.log2 : Int) - 52)).toNat = 0 := by omega
    have e2 : ((q.log2 : Int) - 52 - 0).toNat = q.log2 - 52 := by omega
    rw [e1, e2, Nat.shiftLeft_zero]
    have hcut : Ieee.Toward.even.cut s q (q.log2 - 52) = q / 2 ^ (q.log2 - 52) := by
      have hg : 1 <<< min (q.log2 - 52) (q.log2 + 2) = 2 ^ (q.log2 - 52) := by rw [Nat.min_eq_left (by omega), Nat.shiftLeft_eq, Nat.one_mul]
      simp only [Ieee.Toward.cut, hg, hd h]
      have : (2 ^ (q.log2 - 52) == 2 * 0) = false := by
        have := Nat.two_pow_pos (q.log2 - 52)
        simp
      simp
    rw [hcut]
    obtain ⟨k1, k2⟩ := kept_big h
    exact ⟨_, k1, k2, by rw [Nat.min_eq_left (by omega)], fun _ => Nat.div_mul_le_self _ _⟩
theorem read_word (s : Bool) {L kept : Nat} (hL : L ≤ 63) (h1 : 4503599627370496 ≤ kept) (h2 : kept < 9007199254740992) :
    FloatKind.f64.format.read (FloatKind.f64.format.word s ((L + 1022) * 4503599627370496 + kept)) = .number s kept ((L : Int) - 52) := by
  obtain ⟨r, hr⟩ : ∃ r, r = (L + 1022) * 4503599627370496 + kept := ⟨_, rfl⟩
  rw [← hr]
  have hr1 : r < 9218868437227405312 := by omega
  have hr2 : 4503599627370496 ≤ r := by omega
  have hdiv : r / 4503599627370496 = L + 1023 := by omega
  have hmod : 4503599627370496 + r % 4503599627370496 = kept := by omega
  unfold Ieee.Format.read Ieee.Format.word
  simp only [w64s, w64b, w64i, w64l]
  cases s with
  | false =>
    have e1 : r / 9223372036854775808 = 0 := by omega
    have e2 : r % 9223372036854775808 = r := by omega
    simp only [Bool.false_eq_true, if_false, e1, e2]
    rw [if_neg (by omega), if_pos hr1, hmod, hdiv]
    simp; omega
  | true =>
    have e1 : (9223372036854775808 + r) / 9223372036854775808 = 1 := by omega
    have e2 : (9223372036854775808 + r) % 9223372036854775808 = r := by omega
    simp only [if_true, e1, e2]
    rw [if_neg (by omega), if_pos hr1, hmod, hdiv]
    simp; omega
/-- A whole float as a whole number: no more than it. -/
theorem whole_le (s : Bool) {q : Nat} (hq : q ≤ 9223372036854775808) (hd : 52 < q.log2 → q % 2 ^ (q.log2 - 52) = 0) :
    ∃ q', (FloatKind.f64.decode (FloatKind.f64.format.nearest s q 0)).toInt .zero = some (Ieee.signed s q' 0) ∧ (q' ≤ q ∨ q' < 9007199254740992) := by
  by_cases h0 : q = 0
  · subst h0
    cases s <;> exact ⟨0, by decide, .inl (Nat.le_refl _)⟩
  have hL : q.log2 ≤ 63 := by
    have := (Nat.log2_lt h0 (k := 64)).mpr (by omega)
    omega
  obtain ⟨kept, k1, k2, hn, hle⟩ := nearest_is s (by omega) hL hd
  rw [hn]
  unfold FloatKind.decode
  rw [read_word s hL k1 k2]
  simp only [Ieee.Datum.toInt, Ieee.Datum.integral]
  refine ⟨_, rfl, ?_⟩
  by_cases h : q.log2 ≤ 52
  · right
    have e1 : ((q.log2 : Int) - 52).toNat = 0 := by omega
    rw [e1, Nat.shiftLeft_zero]
    exact Nat.lt_of_le_of_lt (cutZ_le _ _ _) k2
  · left
    have h := Nat.lt_of_not_le h
    have e1 : ((q.log2 : Int) - 52).toNat = q.log2 - 52 := by omega
    have e2 : (-((q.log2 : Int) - 52)).toNat = 0 := by omega
    rw [e1, e2, cut0, Nat.shiftLeft_eq]
    exact hle h
/-- The place of a float's last digit, and what it is cut to. -/
theorem cut_bounds {s : Bool} {m : Nat} {i : Int} (hm : m ≤ 9007199254740991) (hi : m * 2 ^ (i - min i 11).toNat ≤ 4503599627370496 * 2 ^ (11 - min i 11).toNat) :
    Ieee.Toward.zero.cut s (m <<< i.toNat) (-i).toNat ≤ 9223372036854775808 ∧ (52 < (Ieee.Toward.zero.cut s (m <<< i.toNat) (-i).toNat).log2 → Ieee.Toward.zero.cut s (m <<< i.toNat) (-i).toNat % 2 ^ ((Ieee.Toward.zero.cut s (m <<< i.toNat) (-i).toNat).log2 - 52) = 0) ∧
      (m * 2 ^ (i - min i 11).toNat < 4503599627370496 * 2 ^ (11 - min i 11).toNat → Ieee.Toward.zero.cut s (m <<< i.toNat) (-i).toNat < 9223372036854775808) := by
  by_cases h : i < 0
  · have e1 : i.toNat = 0 := by omega
    rw [e1, Nat.shiftLeft_zero]
    have hc := cutZ_le s m (-i).toNat
    generalize Ieee.Toward.zero.cut s m (-i).toNat = q at hc
    refine ⟨by omega, fun hq => ?_, fun _ => by omega⟩
    exfalso
    have hq0 : q ≠ 0 := by intro e; subst e; simp at hq
    have := (Nat.log2_lt hq0 (k := 53)).mpr (by omega)
    omega
  · obtain ⟨n, rfl⟩ : ∃ n : Nat, i = n := ⟨i.toNat, by omega⟩
    have e1 : ((n : Int)).toNat = n := by omega
    have e2 : (-(n : Int)).toNat = 0 := by omega
    rw [e1, e2, cut0, Nat.shiftLeft_eq]
    have hpow : 4503599627370496 * 2 ^ 11 = 9223372036854775808 := by decide
    have hb : m * 2 ^ n ≤ 9223372036854775808 ∧ (m * 2 ^ ((n : Int) - min (n : Int) 11).toNat < 4503599627370496 * 2 ^ (11 - min (n : Int) 11).toNat → m * 2 ^ n < 9223372036854775808) := by
      by_cases hn : n ≤ 11
      · have h1 : ((n : Int) - min (n : Int) 11).toNat = 0 := by omega
        have h2 : (11 - min (n : Int) 11).toNat = 11 - n := by omega
        rw [h1, h2, Nat.pow_zero, Nat.mul_one] at hi ⊢
        have hp : 4503599627370496 * 2 ^ (11 - n) * 2 ^ n = 9223372036854775808 := by rw [Nat.mul_assoc, ← Nat.pow_add, show 11 - n + n = 11 by omega]
        exact ⟨by rw [← hp]; exact Nat.mul_le_mul_right _ hi, fun h => by rw [← hp]; exact Nat.mul_lt_mul_of_pos_right h (Nat.two_pow_pos _)⟩
      · have h1 : ((n : Int) - min (n : Int) 11).toNat = n - 11 := by omega
        have h2 : (11 - min (n : Int) 11).toNat = 0 := by omega
        rw [h1, h2, Nat.pow_zero, Nat.mul_one] at hi ⊢
        have hp : m * 2 ^ n = m * 2 ^ (n - 11) * 2048 := by rw [Nat.mul_assoc, show (2048 : Nat) = 2 ^ 11 by decide, ← Nat.pow_add, show n - 11 + 11 = n by omega]
        exact ⟨by rw [hp]; omega, fun h => by rw [hp]; omega⟩
    refine ⟨hb.1, fun hq => ?_, hb.2⟩
    have hne : m * 2 ^ n ≠ 0 := by intro e; rw [e] at hq; simp at hq
    have hlt : (m * 2 ^ n).log2 < 53 + n := (Nat.log2_lt hne).mpr (by
      rw [Nat.pow_add]
      exact Nat.mul_lt_mul_of_pos_right (by omega) (Nat.two_pow_pos _))
    have hsplit : m * 2 ^ n = m * 2 ^ (n - ((m * 2 ^ n).log2 - 52)) * 2 ^ ((m * 2 ^ n).log2 - 52) := by
      rw [Nat.mul_assoc, ← Nat.pow_add, show n - ((m * 2 ^ n).log2 - 52) + ((m * 2 ^ n).log2 - 52) = n by omega]
    conv => lhs; lhs; rw [hsplit]
    exact Nat.mul_mod_left _ _
end Go.Am.Rl

/- A finite float between the least and the greatest whole number, made whole. -/
namespace Go.Am.Rl
open Go.Proofs

theorem read_hi : FloatKind.f64.format.read 4890909195324358656 = .number false 4503599627370496 11 := by decide
theorem read_lo : FloatKind.f64.format.read 14114281232179134464 = .number true 4503599627370496 11 := by decide
theorem cmp_lt {x y : Int} (h : (some (compare x y) == some Ordering.gt || some (compare x y) == some Ordering.eq) = false) : x < y := by
  simp only [compare, compareOfLessAndEq] at h
  split at h
  · assumption
  · split at h <;> cases h
theorem cmp_nlt {x y : Int} (h : (some (compare x y) == some Ordering.lt) = false) : y ≤ x := by
  simp only [compare, compareOfLessAndEq] at h
  split at h
  · cases h
  · omega
theorem trunc_in {f : Nat} (hf : fin64 f = true) (hg : abin .geq (.flt .f64 f) (.flt .f64 4890909195324358656) = some (.bool false)) (hl : abin .lss (.flt .f64 f) (.flt .f64 14114281232179134464) = some (.bool false)) :
    ∃ t w, aext 3 [.flt .f64 f] = some (.flt .f64 t) ∧ fltInt .f64 .f64 .i64 t = some w := by
  obtain ⟨m, j, hr, hm, hj⟩ := read_num (fin_lt hf)
  generalize (f / 9223372036854775808 % 2 == 1) = s at hr
  obtain ⟨i, hi⟩ : ∃ i, i = FloatKind.f64.format.leastPlace + (j : Nat) := ⟨_, rfl⟩
  rw [← hi] at hr
  have hg : (some (compare (Ieee.signed s m (i - min i 11).toNat) (Ieee.signed false 4503599627370496 (11 - min i 11).toNat)) == some Ordering.gt || some (compare (Ieee.signed s m (i - min i 11).toNat) (Ieee.signed false 4503599627370496 (11 - min i 11).toNat)) == some Ordering.eq) = false := by
    have : abin .geq (.flt .f64 f) (.flt .f64 4890909195324358656) = some (.bool (FloatKind.f64.format.order f 4890909195324358656 == some .gt || FloatKind.f64.format.order f 4890909195324358656 == some .eq)) := rfl
    rw [this] at hg
    have ho : FloatKind.f64.format.order f 4890909195324358656 = some (compare (Ieee.signed s m (i - min i 11).toNat) (Ieee.signed false 4503599627370496 (11 - min i 11).toNat)) := by
      unfold Ieee.Format.order
      rw [hr, read_hi]; rfl
    rw [ho] at hg
    simpa using hg
  have hl : (some (compare (Ieee.signed s m (i - min i 11).toNat) (Ieee.signed true 4503599627370496 (11 - min i 11).toNat)) == some Ordering.lt) = false := by
    have : abin .lss (.flt .f64 f) (.flt .f64 14114281232179134464) = some (.bool (FloatKind.f64.format.order f 14114281232179134464 == some .lt)) := rfl
    rw [this] at hl
    have ho : FloatKind.f64.format.order f 14114281232179134464 = some (compare (Ieee.signed s m (i - min i 11).toNat) (Ieee.signed true 4503599627370496 (11 - min i 11).toNat)) := by
      unfold Ieee.Format.order
      rw [hr, read_lo]; rfl
    rw [ho] at hl
    simpa using hl
  have hg := cmp_lt hg
  have hl := cmp_nlt hl
  have key : m * 2 ^ (i - min i 11).toNat ≤ 4503599627370496 * 2 ^ (11 - min i 11).toNat ∧ (s = false → m * 2 ^ (i - min i 11).toNat < 4503599627370496 * 2 ^ (11 - min i 11).toNat) := by
    cases s with
    | false =>
      simp only [Ieee.signed, Bool.false_eq_true, if_false, Nat.shiftLeft_eq] at hg
      have : m * 2 ^ (i - min i 11).toNat < 4503599627370496 * 2 ^ (11 - min i 11).toNat := by omega
      exact ⟨by omega, fun _ => this⟩
    | true =>
      simp only [Ieee.signed, if_true, Nat.shiftLeft_eq] at hl
      exact ⟨by omega, fun h => nomatch h⟩
  obtain ⟨c1, c2, c3⟩ := cut_bounds (s := s) hm key.1
  obtain ⟨q, hq⟩ : ∃ q, q = Ieee.Toward.zero.cut s (m <<< i.toNat) (-i).toNat := ⟨_, rfl⟩
  rw [← hq] at c1 c2 c3
  obtain ⟨q', ht, hb⟩ := whole_le s c1 c2
  refine ⟨FloatKind.f64.format.nearest s q 0, Ieee.signed s q' 0, ?_, ?_⟩
  · have hd : FloatKind.f64.decode f = .number s m i := hr
    show aext3 .zero [.flt .f64 f] = _
    simp only [aext3, hd]
    rw [hq]
    rfl
  · unfold fltInt
    rw [if_pos rfl, ht]
    have hmin : IntKind.i64.min = -9223372036854775808 := by decide
    have hmax : IntKind.i64.max = 9223372036854775807 := by decide
    simp only [hmin, hmax]
    rw [if_pos]
    cases s with
    | false =>
      have := c3 (key.2 rfl)
      simp only [Ieee.signed, Bool.false_eq_true, if_false, Nat.shiftLeft_zero]
      omega
    | true =>
      simp only [Ieee.signed, if_true, Nat.shiftLeft_zero]
      omega
end Go.Am.Rl

/- The order of terms, as a function; what is above is below from the other side. -/
namespace Go.Am.Rl

/-- Whole numbers compared. -/
def ordI (a b : Int) : Int := if a < b then -1 else if b < a then 1 else 0
theorem ordI_swap (a b : Int) : ordI b a = - ordI a b := by unfold ordI; repeat' split <;> omega
theorem ordI_self (a : Int) : ordI a a = 0 := by unfold ordI; repeat' split <;> omega
theorem ordI_in (a b : Int) : -1 ≤ ordI a b ∧ ordI a b ≤ 1 := by unfold ordI; repeat' split <;> omega
/-- Floats compared. -/
def ordF (x y : Nat) : Int := match FloatKind.f64.format.order x y with
  | some .lt => -1
  | some .gt => 1
  | _ => 0
theorem cmp_swap (x y : Int) : compare y x = (compare x y).swap := by
  simp only [compare, compareOfLessAndEq]
  repeat' split
  all_goals first | rfl | (exfalso; omega)
theorem cmpN_swap (x y : Nat) : compare y x = (compare x y).swap := by
  simp only [compare, compareOfLessAndEq]
  repeat' split
  all_goals first | rfl | (exfalso; omega)
theorem dorder_swap (a b : Ieee.Datum) : b.order a = (a.order b).map Ordering.swap := by
  cases a with
  | nan s t => cases b <;> rfl
  | infinity s =>
    cases b with
    | nan t u => rfl
    | infinity t => simp only [Ieee.Datum.order, Option.map_some, cmpN_swap s.toNat t.toNat]; rw [← cmpN_swap, cmpN_swap]
    | number t m j => cases s <;> rfl
  | number s m i =>
    cases b with
    | nan t u => rfl
    | infinity t => cases t <;> rfl
    | number t n j => simp only [Ieee.Datum.order, Option.map_some, Int.min_comm j i]; rw [cmp_swap]
theorem ordF_swap (x y : Nat) : ordF y x = - ordF x y := by
  unfold ordF Ieee.Format.order
  rw [dorder_swap]
  cases h : (FloatKind.f64.format.read x).order (FloatKind.f64.format.read y) with
  | none => rfl
  | some o => cases o <;> rfl
theorem ordF_self (x : Nat) : ordF x x = 0 := by have := ordF_swap x x; omega
theorem ordF_in (x y : Nat) : -1 ≤ ordF x y ∧ ordF x y ≤ 1 := by unfold ordF; split <;> omega
/-- Is it told true? -/
def isT : Option AVal → Bool
  | some (.bool b) => b
  | _ => false
/-- A float compared with a whole number. -/
def exactv (f : Nat) (n : Int) : Int :=
  if isT (abin .geq (.flt .f64 f) (.flt .f64 4890909195324358656)) = true then 1
  else if isT (abin .lss (.flt .f64 f) (.flt .f64 14114281232179134464)) = true then -1
  else match aext 3 [.flt .f64 f] with
    | some (.flt .f64 t) => match fltInt .f64 .f64 .i64 t with
      | some w => if w < n then -1 else if n < w then 1 else if isT (abin .lss (.flt .f64 f) (.flt .f64 t)) = true then -1 else if isT (abin .gtr (.flt .f64 f) (.flt .f64 t)) = true then 1 else 0
      | none => 0
    | _ => 0
theorem in_if {c : Prop} [Decidable c] {x y : Int} (hx : -1 ≤ x ∧ x ≤ 1) (hy : -1 ≤ y ∧ y ≤ 1) : -1 ≤ (if c then x else y) ∧ (if c then x else y) ≤ 1 := by split <;> assumption
theorem exactv_in (f : Nat) (n : Int) : -1 ≤ exactv f n ∧ exactv f n ≤ 1 := by
  unfold exactv
  refine in_if (by decide) (in_if (by decide) ?_)
  cases aext 3 [.flt .f64 f] with
  | none => exact (show -1 ≤ (0 : Int) ∧ (0 : Int) ≤ 1 by decide)
  | some u =>
    cases u with
    | flt k t =>
      cases k with
      | f64 =>
        simp only
        cases fltInt .f64 .f64 .i64 t with
        | none => exact (show -1 ≤ (0 : Int) ∧ (0 : Int) ≤ 1 by decide)
        | some w => exact in_if (by decide) (in_if (by decide) (in_if (by decide) (in_if (by decide) (by decide))))
      | f32 => exact (show -1 ≤ (0 : Int) ∧ (0 : Int) ≤ 1 by decide)
    | _ => exact (show -1 ≤ (0 : Int) ∧ (0 : Int) ≤ 1 by decide)
/-- Numbers compared: kinds, whole numbers, floats. -/
def numv (k n : Int) (f : Nat) (k' n' : Int) (f' : Nat) : Int :=
  if k = 1 ∧ k' = 1 then ordI n n' else if k = 1 then - exactv f' n else if k' = 1 then exactv f n' else ordF f f'
theorem numv_swap (k n : Int) (f : Nat) (k' n' : Int) (f' : Nat) : numv k' n' f' k n f = - numv k n f k' n' f' := by
  unfold numv
  by_cases h : k = 1 <;> by_cases h' : k' = 1 <;> simp only [h, h', and_self, and_true, true_and, and_false, false_and, if_true, if_false]
  · exact ordI_swap _ _
  · omega
  · exact ordF_swap _ _
theorem numv_in (k n : Int) (f : Nat) (k' n' : Int) (f' : Nat) : -1 ≤ numv k n f k' n' f' ∧ numv k n f k' n' f' ≤ 1 := by
  unfold numv
  have h1 := ordI_in n n'
  have h2 := exactv_in f' n
  have h3 := exactv_in f n'
  have h4 := ordF_in f f'
  repeat' split <;> omega
theorem numv_self (k n : Int) (f : Nat) : numv k n f k n f = 0 := by have := numv_swap k n f k n f; omega
/-- Texts compared. -/
def cmpv (a b : ByteArray) : Int := Extern.BytealgCompare.cmp a b
theorem cmpv_swap (a b : ByteArray) : cmpv b a = - cmpv a b := by
  unfold cmpv Extern.BytealgCompare.cmp
  have e : (List.range (min b.size a.size)).find? (fun i => b[i]! != a[i]!) = (List.range (min a.size b.size)).find? (fun i => a[i]! != b[i]!) := by
    rw [Nat.min_comm]
    congr 1
    funext i
    exact bne_comm
  rw [e]
  cases h : (List.range (min a.size b.size)).find? (fun i => a[i]! != b[i]!) with
  | none => simp only; repeat' split <;> omega
  | some i =>
    have hne := List.find?_some h
    simp only at hne ⊢
    have hn : a[i]! ≠ b[i]! := by simpa using hne
    by_cases h1 : a[i]! < b[i]!
    · have h2 : ¬ b[i]! < a[i]! := by rw [UInt8.lt_iff_toNat_lt] at h1 ⊢; omega
      rw [if_neg h2, if_pos h1]; rfl
    · have h2 : b[i]! < a[i]! := by
        rw [UInt8.lt_iff_toNat_lt] at h1 ⊢
        have : a[i]!.toNat ≠ b[i]!.toNat := fun e => hn (UInt8.toNat_inj.mp e)
        omega
      rw [if_pos h2, if_neg h1]
theorem cmpv_self (a : ByteArray) : cmpv a a = 0 := by have := cmpv_swap a a; omega
theorem cmpv_in (a b : ByteArray) : -1 ≤ cmpv a b ∧ cmpv a b ≤ 1 := by unfold cmpv Extern.BytealgCompare.cmp; repeat' split <;> omega
/-- Where a kind stands. -/
def rank (k : Int) : Int := if k = 1 ∨ k = 2 then 0 else k
mutual
/-- The order of terms. -/
def ord : TM → TM → Int
  | .mk k n f s nl l, b =>
    if rank k - rank b.k ≠ 0 then ordI (rank k - rank b.k) 0
    else if k = 1 ∨ k = 2 then numv k n f b.k b.n b.f
    else if k = 3 then cmpv s b.s
    else if k = 4 ∨ k = 6 then ordI n b.n
    else if k = 5 then (if ordI n b.n ≠ 0 then ordI n b.n else ords l b.l)
    else if k = 7 then (if ordI l.length b.l.length ≠ 0 then ordI l.length b.l.length else ords l b.l)
    else ords l b.l
def ords : List TM → List TM → Int
  | [], [] => 0
  | [], _ :: _ => -1
  | _ :: _, [] => 1
  | x :: r, y :: s => if ord x y ≠ 0 then ord x y else ords r s
end
theorem ord_eq (a b : TM) : ord a b = if rank a.k - rank b.k ≠ 0 then ordI (rank a.k - rank b.k) 0
    else if a.k = 1 ∨ a.k = 2 then numv a.k a.n a.f b.k b.n b.f
    else if a.k = 3 then cmpv a.s b.s
    else if a.k = 4 ∨ a.k = 6 then ordI a.n b.n
    else if a.k = 5 then (if ordI a.n b.n ≠ 0 then ordI a.n b.n else ords a.l b.l)
    else if a.k = 7 then (if ordI a.l.length b.l.length ≠ 0 then ordI a.l.length b.l.length else ords a.l b.l)
    else ords a.l b.l := by
  cases a; rw [ord]; rfl
theorem ords_swap : ∀ (l m : List TM), (∀ x ∈ l, ∀ y ∈ m, ord y x = - ord x y) → ords m l = - ords l m
  | [], [], _ => by simp [ords]
  | [], _ :: _, _ => by simp [ords]
  | _ :: _, [], _ => by simp [ords]
  | x :: r, y :: s, h => by
    have h1 := h x (List.mem_cons_self ..) y (List.mem_cons_self ..)
    have h2 := ords_swap r s fun a ha b hb => h a (List.mem_cons_of_mem _ ha) b (List.mem_cons_of_mem _ hb)
    simp only [ords, h1, h2]
    repeat' split <;> omega
theorem fine_kind {t : TM} (h : fine t) : 1 ≤ t.k ∧ t.k ≤ 8 := by
  rcases ((fine_eq t).mp h).1 with ⟨h, _⟩ | ⟨h, _⟩ | ⟨h, _⟩ | ⟨h | h, _⟩ | ⟨h, _⟩ | ⟨h | h, _⟩ <;> omega
theorem rank_pos {k : Int} (h : 1 ≤ k) : rank k = 0 ↔ k = 1 ∨ k = 2 := by unfold rank; split <;> omega
theorem rank_same {a b : Int} (ha : 1 ≤ a) (hb : 1 ≤ b) (h : rank a = rank b) : (a = b) ∨ ((a = 1 ∨ a = 2) ∧ (b = 1 ∨ b = 2)) := by
  unfold rank at h; split at h <;> split at h <;> omega
theorem ord_swap : ∀ a : TM, ∀ b : TM, fine a → fine b → ord b a = - ord a b := by
  refine TM.all fun a ih b fa fb => ?_
  have ha := fine_kind fa
  have hb := fine_kind fb
  have hl : ords b.l a.l = - ords a.l b.l := ords_swap a.l b.l fun x hx y hy => ih x hx y (fines_iff.mp ((fine_eq a).mp fa).2 x hx) (fines_iff.mp ((fine_eq b).mp fb).2 y hy)
  rw [ord_eq a b, ord_eq b a]
  by_cases hr : rank a.k - rank b.k = 0
  · have hr' : rank b.k - rank a.k = 0 := by omega
    rw [if_neg (show ¬ (rank b.k - rank a.k ≠ 0) by omega), if_neg (show ¬ (rank a.k - rank b.k ≠ 0) by omega)]
    rcases rank_same ha.1 hb.1 (by omega) with hk | ⟨h1, h2⟩
    · rw [← hk]
      have e1 := ordI_swap a.n b.n
      have e2 := ordI_swap a.l.length b.l.length
      have e3 := cmpv_swap a.s b.s
      have e4 := numv_swap a.k a.n a.f a.k b.n b.f
      rw [e1, e2, e3, e4, hl]
      repeat' split <;> omega
    · rw [if_pos h2, if_pos h1]
      exact numv_swap _ _ _ _ _ _
  · rw [if_pos (show rank b.k - rank a.k ≠ 0 by omega), if_pos (show rank a.k - rank b.k ≠ 0 by omega)]
    unfold ordI
    repeat' split <;> omega
mutual
/-- Identical terms. -/
def samev : TM → TM → Bool
  | .mk k n f s nl l, b => k == b.k && (if k = 1 ∨ k = 2 then n == b.n && f == b.f else n == b.n && (s.toList == b.s.toList && samevs l b.l))
def samevs : List TM → List TM → Bool
  | [], [] => true
  | x :: r, y :: s => samev x y && samevs r s
  | _, _ => false
end
theorem samev_eq (a b : TM) : samev a b = (a.k == b.k && (if a.k = 1 ∨ a.k = 2 then a.n == b.n && a.f == b.f else a.n == b.n && (a.s.toList == b.s.toList && samevs a.l b.l))) := by
  cases a; rw [samev]; rfl
theorem samevs_len : ∀ {l m : List TM}, samevs l m = true → l.length = m.length
  | [], [], _ => rfl
  | [], _ :: _, h => by simp [samevs] at h
  | _ :: _, [], h => by simp [samevs] at h
  | x :: r, y :: s, h => by
    simp only [samevs, Bool.and_eq_true] at h
    simp only [List.length_cons, samevs_len h.2]
theorem samevs_ord : ∀ {l m : List TM}, (∀ x ∈ l, ∀ y, samev x y = true → ord x y = 0) → samevs l m = true → ords l m = 0
  | [], [], _, _ => by simp [ords]
  | [], _ :: _, _, h => by simp [samevs] at h
  | _ :: _, [], _, h => by simp [samevs] at h
  | x :: r, y :: s, ih, h => by
    simp only [samevs, Bool.and_eq_true] at h
    have h1 := ih x (List.mem_cons_self ..) y h.1
    have h2 := samevs_ord (fun a ha => ih a (List.mem_cons_of_mem _ ha)) h.2
    simp [ords, h1, h2]
theorem same_ord : ∀ a : TM, ∀ b : TM, samev a b = true → ord a b = 0 := by
  refine TM.all fun a ih b h => ?_
  rw [samev_eq, Bool.and_eq_true] at h
  obtain ⟨hk, h⟩ := h
  have hk : a.k = b.k := by simpa using hk
  rw [ord_eq, ← hk, if_neg (by omega)]
  by_cases hn : a.k = 1 ∨ a.k = 2
  · rw [if_pos hn] at h ⊢
    simp only [Bool.and_eq_true, beq_iff_eq] at h
    rw [← h.1, ← h.2]
    exact numv_self _ _ _
  · rw [if_neg hn] at h ⊢
    simp only [Bool.and_eq_true] at h
    obtain ⟨h1, h2, h3⟩ := h
    have h1 : a.n = b.n := by simpa using h1
    have h2 : a.s = b.s := bytes_eq (by rw [beq_toListBytes]; exact h2)
    have hl := samevs_len h3
    have ho := samevs_ord (fun x hx y hxy => ih x hx y hxy) h3
    rw [← h1, ← h2, ← hl, ho, ordI_self, ordI_self, cmpv_self]
    repeat' split <;> omega
end Go.Am.Rl

/- Numbers and texts compared by the program. -/
namespace Go.Am.Rl
open Go.Proofs

theorem g89 (a b : Int) (H : AHeap) : DCall Tryz.prog 33 [.int .i64 a, .int .i64 b] H fun r H' => r = .int .i64 (ordI a b) ∧ H' = H := by
  refine DCall.of_body (fn := Tryz.f33) (by kernel_rfl) c33 (by kernel_rfl) (by simp [f33]) ?_
  unfold f33
  simp only []
  refine DR.go rfl ?_
  simp -dsimp only [SZ, EZ, astep, aun, AVal.cells, seval]
  by_cases h1 : a < b
  · have c1 : abin .lss (.int .i64 a) (.int .i64 b) = some (.bool true) := by simp [abin, h1]
    refine DR.go rfl ?_
    simp -dsimp only [SZ, EZ, astep, aun, AVal.cells, seval, c1]
    refine DR.ye rfl rfl ?_
    refine DR.go rfl ?_
    simp -dsimp only [SZ, EZ, astep, aun, AVal.cells, seval]
    refine DR.nm rfl ?_
    exact DR.ret ⟨_, by simp [aresult, ares, Env.get] <;> rfl, by unfold ordI; rw [if_pos h1], rfl⟩
  · have c1 : abin .lss (.int .i64 a) (.int .i64 b) = some (.bool false) := by simp [abin, h1]
    refine DR.go rfl ?_
    simp -dsimp only [SZ, EZ, astep, aun, AVal.cells, seval, c1]
    refine DR.ne rfl rfl ?_
    by_cases h2 : b < a
    · have c2 : abin .gtr (.int .i64 a) (.int .i64 b) = some (.bool true) := by simp [abin, h2]
      refine DR.go rfl ?_
      simp -dsimp only [SZ, EZ, astep, aun, AVal.cells, seval, c2]
      refine DR.ye rfl rfl ?_
      refine DR.go rfl ?_
      simp -dsimp only [SZ, EZ, astep, aun, AVal.cells, seval]
      refine DR.nm rfl ?_
      exact DR.ret ⟨_, by simp [aresult, ares, Env.get] <;> rfl, by unfold ordI; rw [if_neg h1, if_pos h2], rfl⟩
    · have c2 : abin .gtr (.int .i64 a) (.int .i64 b) = some (.bool false) := by simp [abin]; omega
      refine DR.go rfl ?_
      simp -dsimp only [SZ, EZ, astep, aun, AVal.cells, seval, c2]
      refine DR.ne rfl rfl ?_
      refine DR.go rfl ?_
      simp -dsimp only [SZ, EZ, astep, aun, AVal.cells, seval]
      refine DR.nm rfl ?_
      exact DR.ret ⟨_, by simp [aresult, ares, Env.get] <;> rfl, by unfold ordI; rw [if_neg h1, if_neg h2], rfl⟩
theorem g136 (a b : Int) (H : AHeap) : DCall Tryz.prog 64 [.int .i64 a, .int .i64 b] H fun r H' => r = .int .i64 (ordI a b) ∧ H' = H := by
  refine DCall.of_body (fn := Tryz.f64) (by kernel_rfl) c64 (by kernel_rfl) (by simp [f64]) ?_
  unfold f64
  simp only []
  refine DR.go rfl ?_
  simp -dsimp only [SZ, EZ, astep, aun, AVal.cells, seval]
  by_cases h1 : a < b
  · have c1 : abin .lss (.int .i64 a) (.int .i64 b) = some (.bool true) := by simp [abin, h1]
    refine DR.go rfl ?_
    simp -dsimp only [SZ, EZ, astep, aun, AVal.cells, seval, c1]
    refine DR.ye rfl rfl ?_
    refine DR.go rfl ?_
    simp -dsimp only [SZ, EZ, astep, aun, AVal.cells, seval]
    refine DR.nm rfl ?_
    exact DR.ret ⟨_, by simp [aresult, ares, Env.get] <;> rfl, by unfold ordI; rw [if_pos h1], rfl⟩
  · have c1 : abin .lss (.int .i64 a) (.int .i64 b) = some (.bool false) := by simp [abin, h1]
    refine DR.go rfl ?_
    simp -dsimp only [SZ, EZ, astep, aun, AVal.cells, seval, c1]
    refine DR.ne rfl rfl ?_
    by_cases h2 : b < a
    · have c2 : abin .gtr (.int .i64 a) (.int .i64 b) = some (.bool true) := by simp [abin, h2]
      refine DR.go rfl ?_
      simp -dsimp only [SZ, EZ, astep, aun, AVal.cells, seval, c2]
      refine DR.ye rfl rfl ?_
      refine DR.go rfl ?_
      simp -dsimp only [SZ, EZ, astep, aun, AVal.cells, seval]
      refine DR.nm rfl ?_
      exact DR.ret ⟨_, by simp [aresult, ares, Env.get] <;> rfl, by unfold ordI; rw [if_neg h1, if_pos h2], rfl⟩
    · have c2 : abin .gtr (.int .i64 a) (.int .i64 b) = some (.bool false) := by simp [abin]; omega
      refine DR.go rfl ?_
      simp -dsimp only [SZ, EZ, astep, aun, AVal.cells, seval, c2]
      refine DR.ne rfl rfl ?_
      refine DR.go rfl ?_
      simp -dsimp only [SZ, EZ, astep, aun, AVal.cells, seval]
      refine DR.nm rfl ?_
      exact DR.ret ⟨_, by simp [aresult, ares, Env.get] <;> rfl, by unfold ordI; rw [if_neg h1, if_neg h2], rfl⟩
theorem g138 (a b : Nat) (H : AHeap) : DCall Tryz.prog 66 [.flt .f64 a, .flt .f64 b] H fun r H' => r = .int .i64 (ordF a b) ∧ H' = H := by
  have e1 : abin .lss (.flt .f64 a) (.flt .f64 b) = some (.bool (FloatKind.f64.format.order a b == some .lt)) := rfl
  have e2 : abin .gtr (.flt .f64 a) (.flt .f64 b) = some (.bool (FloatKind.f64.format.order a b == some .gt)) := rfl
  have eF : ordF a b = match FloatKind.f64.format.order a b with
    | some .lt => -1
    | some .gt => 1
    | _ => 0 := rfl
  generalize FloatKind.f64.format.order a b = o at e1 e2 eF
  rw [eF]
  refine DCall.of_body (fn := Tryz.f66) (by kernel_rfl) c66 (by kernel_rfl) (by simp [f66]) ?_
  unfold f66
  simp only []
  refine DR.go rfl ?_
  simp -dsimp only [SZ, EZ, astep, aun, AVal.cells, seval]
  match o with
  | some .lt =>
    have c1 : abin .lss (.flt .f64 a) (.flt .f64 b) = some (.bool true) := e1
    refine DR.go rfl ?_
    simp -dsimp only [SZ, EZ, astep, aun, AVal.cells, seval, c1]
    refine DR.ye rfl rfl ?_
    refine DR.go rfl ?_
    simp -dsimp only [SZ, EZ, astep, aun, AVal.cells, seval]
    refine DR.nm rfl ?_
    exact DR.ret ⟨_, by simp [aresult, ares, Env.get] <;> rfl, rfl, rfl⟩
  | some .gt =>
    have c1 : abin .lss (.flt .f64 a) (.flt .f64 b) = some (.bool false) := e1
    have c2 : abin .gtr (.flt .f64 a) (.flt .f64 b) = some (.bool true) := e2
    refine DR.go rfl ?_
    simp -dsimp only [SZ, EZ, astep, aun, AVal.cells, seval, c1]
    refine DR.ne rfl rfl ?_
    refine DR.go rfl ?_
    simp -dsimp only [SZ, EZ, astep, aun, AVal.cells, seval, c2]
    refine DR.ye rfl rfl ?_
    refine DR.go rfl ?_
    simp -dsimp only [SZ, EZ, astep, aun, AVal.cells, seval]
    refine DR.nm rfl ?_
    exact DR.ret ⟨_, by simp [aresult, ares, Env.get] <;> rfl, rfl, rfl⟩
  | some .eq =>
    have c1 : abin .lss (.flt .f64 a) (.flt .f64 b) = some (.bool false) := e1
    have c2 : abin .gtr (.flt .f64 a) (.flt .f64 b) = some (.bool false) := e2
    refine DR.go rfl ?_
    simp -dsimp only [SZ, EZ, astep, aun, AVal.cells, seval, c1]
    refine DR.ne rfl rfl ?_
    refine DR.go rfl ?_
    simp -dsimp only [SZ, EZ, astep, aun, AVal.cells, seval, c2]
    refine DR.ne rfl rfl ?_
    refine DR.go rfl ?_
    simp -dsimp only [SZ, EZ, astep, aun, AVal.cells, seval]
    refine DR.nm rfl ?_
    exact DR.ret ⟨_, by simp [aresult, ares, Env.get] <;> rfl, rfl, rfl⟩
  | none =>
    have c1 : abin .lss (.flt .f64 a) (.flt .f64 b) = some (.bool false) := e1
    have c2 : abin .gtr (.flt .f64 a) (.flt .f64 b) = some (.bool false) := e2
    refine DR.go rfl ?_
    simp -dsimp only [SZ, EZ, astep, aun, AVal.cells, seval, c1]
    refine DR.ne rfl rfl ?_
    refine DR.go rfl ?_
    simp -dsimp only [SZ, EZ, astep, aun, AVal.cells, seval, c2]
    refine DR.ne rfl rfl ?_
    refine DR.go rfl ?_
    simp -dsimp only [SZ, EZ, astep, aun, AVal.cells, seval]
    refine DR.nm rfl ?_
    exact DR.ret ⟨_, by simp [aresult, ares, Env.get] <;> rfl, rfl, rfl⟩
theorem g95 {f : Nat} (hf : fin64 f = true) (H : AHeap) : DCall Tryz.prog 102 [.flt .f64 f] H fun r H' => r = .bool false ∧ H' = H := by
  have c : abin .neq (.flt .f64 f) (.flt .f64 f) = some (.bool false) := neq_fin hf
  refine DCall.of_body (fn := Tryz.f102) (by kernel_rfl) c102 (by kernel_rfl) (by simp [f102]) ?_
  unfold f102
  simp only []
  refine DR.go rfl ?_
  simp -dsimp only [SZ, EZ, astep, aun, AVal.cells, seval]
  refine DR.go rfl ?_
  simp -dsimp only [SZ, EZ, astep, aun, AVal.cells, seval, c]
  refine DR.nm rfl ?_
  exact DR.ret ⟨_, by simp [aresult, ares, Env.get] <;> rfl, rfl, rfl⟩
theorem g144 {f t : Nat} (h : aext 3 [.flt .f64 f] = some (.flt .f64 t)) (H : AHeap) : DCall Tryz.prog 103 [.flt .f64 f] H fun r H' => r = .flt .f64 t ∧ H' = H := by
  refine DCall.of_body (fn := Tryz.f103) (by kernel_rfl) c103 (by kernel_rfl) (by simp [f103]) ?_
  unfold f103
  simp only []
  refine DR.go rfl ?_
  simp -dsimp only [SZ, EZ, astep, aun, AVal.cells, seval]
  refine DR.ye rfl rfl ?_
  refine DR.go rfl ?_
  simp -dsimp only [SZ, EZ, astep, aun, AVal.cells, seval, h]
  refine DR.nm rfl ?_
  exact DR.ret ⟨_, by simp [aresult, ares, Env.get] <;> rfl, rfl, rfl⟩
/-- A finite float compared with a whole number. -/
theorem g137 {f : Nat} (hf : fin64 f = true) (n : Int) (H : AHeap) : DCall Tryz.prog 65 [.flt .f64 f, .int .i64 n] H fun r H' => r = .int .i64 (exactv f n) ∧ H' = H := by
  have b2 : ∀ op, (op = .lss ∨ op = .gtr ∨ op = .geq) → ∀ x y : Nat, ∃ b, abin op (.flt .f64 x) (.flt .f64 y) = some (.bool b) := by
    rintro op (rfl | rfl | rfl) x y <;> exact ⟨_, rfl⟩
  refine DCall.of_body (fn := Tryz.f65) (by kernel_rfl) c65 (by kernel_rfl) (by simp [f65]) ?_
  unfold f65
  simp only []
  refine DR.go rfl ?_
  simp -dsimp only [SZ, EZ, astep, aun, AVal.cells, seval]
  refine DR.go rfl ?_
  simp -dsimp only [SZ, EZ, astep, aun, AVal.cells, seval]
  refine (g95 hf H).mono ?_
  rintro r H' ⟨rfl, he⟩
  obtain rfl := he.symm
  simp -dsimp only [SZ, EZ, astep, aun, AVal.cells, seval]
  refine DR.ne rfl rfl ?_
  obtain ⟨b1, c1⟩ := b2 .geq (.inr (.inr rfl)) f 4890909195324358656
  cases b1 with
  | true =>
    refine DR.go rfl ?_
    simp -dsimp only [SZ, EZ, astep, aun, AVal.cells, seval, c1]
    refine DR.ye rfl rfl ?_
    refine DR.go rfl ?_
    simp -dsimp only [SZ, EZ, astep, aun, AVal.cells, seval]
    refine DR.nm rfl ?_
    exact DR.ret ⟨_, by simp [aresult, ares, Env.get] <;> rfl, by unfold exactv; rw [if_pos (by rw [c1]; rfl)], rfl⟩
  | false => ?_
  refine DR.go rfl ?_
  simp -dsimp only [SZ, EZ, astep, aun, AVal.cells, seval, c1]
  refine DR.ne rfl rfl ?_
  obtain ⟨b2', c2⟩ := b2 .lss (.inl rfl) f 14114281232179134464
  cases b2' with
  | true =>
    refine DR.go rfl ?_
    simp -dsimp only [SZ, EZ, astep, aun, AVal.cells, seval, c2]
    refine DR.ye rfl rfl ?_
    refine DR.go rfl ?_
    simp -dsimp only [SZ, EZ, astep, aun, AVal.cells, seval]
    refine DR.nm rfl ?_
    exact DR.ret ⟨_, by simp [aresult, ares, Env.get] <;> rfl, by unfold exactv; rw [if_neg (by rw [c1]; decide), if_pos (by rw [c2]; rfl)], rfl⟩
  | false => ?_
  obtain ⟨t, w, ht, hw⟩ := trunc_in hf c1 c2
  have ev : exactv f n = if w < n then -1 else if n < w then 1 else if isT (abin .lss (.flt .f64 f) (.flt .f64 t)) = true then -1 else if isT (abin .gtr (.flt .f64 f) (.flt .f64 t)) = true then 1 else 0 := by
    unfold exactv
    rw [if_neg (by rw [c1]; decide), if_neg (by rw [c2]; decide), ht]
    simp only [hw]
  rw [ev]
  refine DR.go rfl ?_
  simp -dsimp only [SZ, EZ, astep, aun, AVal.cells, seval, c2]
  refine DR.ne rfl rfl ?_
  refine DR.go rfl ?_
  simp -dsimp only [SZ, EZ, astep, aun, AVal.cells, seval]
  refine (g144 ht H).mono ?_
  rintro r H' ⟨rfl, he⟩
  obtain rfl := he.symm
  simp -dsimp only [SZ, EZ, astep, aun, AVal.cells, seval]
  refine DR.go rfl ?_
  simp -dsimp only [SZ, EZ, astep, aun, AVal.cells, seval, hw]
  by_cases h1 : w < n
  · have d1 : abin .lss (.int .i64 w) (.int .i64 n) = some (.bool true) := by simp [abin, h1]
    refine DR.go rfl ?_
    simp -dsimp only [SZ, EZ, astep, aun, AVal.cells, seval, d1]
    refine DR.ye rfl rfl ?_
    refine DR.go rfl ?_
    simp -dsimp only [SZ, EZ, astep, aun, AVal.cells, seval]
    refine DR.nm rfl ?_
    exact DR.ret ⟨_, by simp [aresult, ares, Env.get] <;> rfl, by rw [if_pos h1], rfl⟩
  have d1 : abin .lss (.int .i64 w) (.int .i64 n) = some (.bool false) := by simp [abin, h1]
  rw [if_neg h1]
  refine DR.go rfl ?_
  simp -dsimp only [SZ, EZ, astep, aun, AVal.cells, seval, d1]
  refine DR.ne rfl rfl ?_
  by_cases h2 : n < w
  · have d2 : abin .gtr (.int .i64 w) (.int .i64 n) = some (.bool true) := by simp [abin, h2]
    refine DR.go rfl ?_
    simp -dsimp only [SZ, EZ, astep, aun, AVal.cells, seval, d2]
    refine DR.ye rfl rfl ?_
    refine DR.go rfl ?_
    simp -dsimp only [SZ, EZ, astep, aun, AVal.cells, seval]
    refine DR.nm rfl ?_
    exact DR.ret ⟨_, by simp [aresult, ares, Env.get] <;> rfl, by rw [if_pos h2], rfl⟩
  have d2 : abin .gtr (.int .i64 w) (.int .i64 n) = some (.bool false) := by simp [abin]; omega
  rw [if_neg h2]
  refine DR.go rfl ?_
  simp -dsimp only [SZ, EZ, astep, aun, AVal.cells, seval, d2]
  refine DR.ne rfl rfl ?_
  obtain ⟨b3, c3⟩ := b2 .lss (.inl rfl) f t
  cases b3 with
  | true =>
    refine DR.go rfl ?_
    simp -dsimp only [SZ, EZ, astep, aun, AVal.cells, seval, c3]
    refine DR.ye rfl rfl ?_
    refine DR.go rfl ?_
    simp -dsimp only [SZ, EZ, astep, aun, AVal.cells, seval]
    refine DR.nm rfl ?_
    exact DR.ret ⟨_, by simp [aresult, ares, Env.get] <;> rfl, by rw [if_pos (by rw [c3]; rfl)], rfl⟩
  | false => ?_
  rw [if_neg (by rw [c3]; decide)]
  refine DR.go rfl ?_
  simp -dsimp only [SZ, EZ, astep, aun, AVal.cells, seval, c3]
  refine DR.ne rfl rfl ?_
  obtain ⟨b4, c4⟩ := b2 .gtr (.inr (.inl rfl)) f t
  cases b4 with
  | true =>
    refine DR.go rfl ?_
    simp -dsimp only [SZ, EZ, astep, aun, AVal.cells, seval, c4]
    refine DR.ye rfl rfl ?_
    refine DR.go rfl ?_
    simp -dsimp only [SZ, EZ, astep, aun, AVal.cells, seval]
    refine DR.nm rfl ?_
    exact DR.ret ⟨_, by simp [aresult, ares, Env.get] <;> rfl, by rw [if_pos (by rw [c4]; rfl)], rfl⟩
  | false => ?_
  rw [if_neg (by rw [c4]; decide)]
  refine DR.go rfl ?_
  simp -dsimp only [SZ, EZ, astep, aun, AVal.cells, seval, c4]
  refine DR.ne rfl rfl ?_
  refine DR.go rfl ?_
  simp -dsimp only [SZ, EZ, astep, aun, AVal.cells, seval]
  refine DR.nm rfl ?_
  exact DR.ret ⟨_, by simp [aresult, ares, Env.get] <;> rfl, rfl, rfl⟩
theorem g139 (a b : ByteArray) (H : AHeap) : DCall Tryz.prog 67 [.str a, .str b] H fun r H' => r = .int .i64 (cmpv a b) ∧ H' = H := by
  have h : aext 7 [.str a, .str b] = some (.int .i64 (cmpv a b)) := rfl
  refine DCall.of_body (fn := Tryz.f67) (by kernel_rfl) c67 (by kernel_rfl) (by simp [f67]) ?_
  unfold f67
  simp only []
  refine DR.go rfl ?_
  simp -dsimp only [SZ, EZ, astep, aun, AVal.cells, seval]
  refine DR.go rfl ?_
  simp -dsimp only [SZ, EZ, astep, aun, AVal.cells, seval, h]
  refine DR.nm rfl ?_
  exact DR.ret ⟨_, by simp [aresult, ares, Env.get] <;> rfl, rfl, rfl⟩
theorem g91 (a b : ByteArray) (H : AHeap) : DCall Tryz.prog 35 [.str a, .str b] H fun r H' => r = .int .i64 (cmpv a b) ∧ H' = H := by
  refine DCall.of_body (fn := Tryz.f35) (by kernel_rfl) c35 (by kernel_rfl) (by simp [f35]) ?_
  unfold f35
  simp only []
  refine DR.go rfl ?_
  simp -dsimp only [SZ, EZ, astep, aun, AVal.cells, seval]
  refine DR.go rfl ?_
  simp -dsimp only [SZ, EZ, astep, aun, AVal.cells, seval]
  refine (g139 a b H).mono ?_
  rintro r H' ⟨rfl, he⟩
  obtain rfl := he.symm
  simp -dsimp only [SZ, EZ, astep, aun, AVal.cells, seval]
  refine DR.nm rfl ?_
  exact DR.ret ⟨_, by simp [aresult, ares, Env.get] <;> rfl, rfl, rfl⟩
theorem eql_dec (k n : Int) : abin .eql (.int .i64 k) (.int .i64 n) = some (.bool (decide (k = n))) := by simp [abin, Bool.beq_eq_decide_eq]
theorem g88 (k : Int) (H : AHeap) : DCall Tryz.prog 32 [.int .i64 k] H fun r H' => r = .int .i64 (rank k) ∧ H' = H := by
  refine DCall.of_body (fn := Tryz.f32) (by kernel_rfl) c32 (by kernel_rfl) (by simp [f32]) ?_
  unfold f32
  simp only []
  refine DR.go rfl ?_
  simp -dsimp only [SZ, EZ, astep, aun, AVal.cells, seval]
  refine DR.go rfl ?_
  simp -dsimp only [SZ, EZ, astep, aun, AVal.cells, seval]
  by_cases h1 : k = 1
  · have c1 : abin .eql (.int .i64 k) (.int .i64 1) = some (.bool true) := by rw [eql_dec]; simp [h1]
    refine DR.go rfl ?_
    simp -dsimp only [SZ, EZ, astep, aun, AVal.cells, seval, c1]
    refine DR.ye rfl rfl ?_
    refine DR.ye rfl rfl ?_
    refine DR.go rfl ?_
    simp -dsimp only [SZ, EZ, astep, aun, AVal.cells, seval]
    refine DR.nm rfl ?_
    exact DR.ret ⟨_, by simp [aresult, ares, Env.get] <;> rfl, by unfold rank; rw [if_pos (.inl h1)], rfl⟩
  · have c1 : abin .eql (.int .i64 k) (.int .i64 1) = some (.bool false) := by rw [eql_dec]; simp [h1]
    refine DR.go rfl ?_
    simp -dsimp only [SZ, EZ, astep, aun, AVal.cells, seval, c1]
    refine DR.ne rfl rfl ?_
    by_cases h2 : k = 2
    · have c2 : abin .eql (.int .i64 k) (.int .i64 2) = some (.bool true) := by rw [eql_dec]; simp [h2]
      refine DR.go rfl ?_
      simp -dsimp only [SZ, EZ, astep, aun, AVal.cells, seval, c2]
      refine DR.ye rfl rfl ?_
      refine DR.go rfl ?_
      simp -dsimp only [SZ, EZ, astep, aun, AVal.cells, seval]
      refine DR.nm rfl ?_
      exact DR.ret ⟨_, by simp [aresult, ares, Env.get] <;> rfl, by unfold rank; rw [if_pos (.inr h2)], rfl⟩
    · have c2 : abin .eql (.int .i64 k) (.int .i64 2) = some (.bool false) := by rw [eql_dec]; simp [h2]
      refine DR.go rfl ?_
      simp -dsimp only [SZ, EZ, astep, aun, AVal.cells, seval, c2]
      refine DR.ne rfl rfl ?_
      refine DR.go rfl ?_
      simp -dsimp only [SZ, EZ, astep, aun, AVal.cells, seval]
      refine DR.nm rfl ?_
      exact DR.ret ⟨_, by simp [aresult, ares, Env.get] <;> rfl, by unfold rank; rw [if_neg (by omega)], rfl⟩
end Go.Am.Rl

/- Numbers compared; terms compared: what 'order' tells. -/
namespace Go.Am.Rl
open Go.Proofs

theorem TM.pures22 (a b : TM) : AVal.pures [a.agg, b.agg] = true := by
  have h1 := TM.pures1 a
  have h2 := TM.pures1 b
  simp only [AVal.pures, Bool.and_true] at h1 h2 ⊢
  rw [h1, h2]; rfl
/-- A number that is right. -/
def numb (t : TM) : Prop := t.k = 1 ∨ (t.k = 2 ∧ fin64 t.f = true)
theorem numb_of {t : TM} (h : fine t) (hk : t.k = 1 ∨ t.k = 2) : numb t := by
  rcases ((fine_eq t).mp h).1 with ⟨h, _⟩ | ⟨h, _, _, _, hf⟩ | ⟨h, _⟩ | ⟨h | h, _⟩ | ⟨h, _⟩ | ⟨h | h, _⟩ <;> first | exact .inl h | exact .inr ⟨h, hf⟩ | omega
theorem neg_in {c : Int} (h : -1 ≤ c ∧ c ≤ 1) : aun .neg (.int .i64 c) = some (.int .i64 (-c)) := by
  have : IntKind.i64.wrap (0 - c) = - c := by
    rw [IntKind.wrap_i64]; omega
  show some (AVal.int .i64 (IntKind.i64.wrap (0 - c))) = _
  rw [this]
theorem g90 {a b : TM} (na : numb a) (nb : numb b) (H : AHeap) : DCall Tryz.prog 34 [a.agg, b.agg] H fun r H' => r = .int .i64 (numv a.k a.n a.f b.k b.n b.f) ∧ H' = H := by
  have h : DCall Tryz.prog 34 [a.agg, b.agg] AHeap.empty fun r H' => ∃ n, r = .int .i64 n ∧ n = numv a.k a.n a.f b.k b.n b.f := by
    have hz : z25 = [.int .i64 0, .int .i64 0, .flt .f64 0, .str ⟨#[]⟩, .nils] := rfl
    obtain ⟨H1, hH1, g1, n1, f1⟩ := psh AHeap.empty (.cells 25 (TM.c5 a))
    obtain ⟨H2, hH2, g2, n2, f2⟩ := psh H1 (.cells 25 (TM.c5 b))
    obtain ⟨H3, hH3, g3, n3, f3⟩ := psh H2 (.cells 25 z25)
    obtain ⟨H4, hH4, g4, n4, f4⟩ := psh H3 (.cells 25 z25)
    have a2 := (f2 _ (by omega)).trans g1
    have la2 := load_all (n := 5) a2 rfl
    have lb2 := load_all (n := 5) g2 rfl
    have t4 := (f4 _ (by omega)).trans g3
    have s5 := store_all (n := 5) t4 (new := TM.c5 a) rfl (TM.ones5 _) rfl
    obtain ⟨H5, hH5, g5, n5, f5⟩ := upd t4 (.cells 25 (TM.c5 a))
    have t5 := (f5 _ (by omega)).trans g4
    have s6 := store_all (n := 5) t5 (new := TM.c5 b) rfl (TM.ones5 _) rfl
    obtain ⟨H6, hH6, g6, n6, f6⟩ := upd t5 (.cells 25 (TM.c5 b))
    have a6 := (f6 _ (by omega)).trans g5
    have ka := load_cell a6 (o := 0) (v := .int .i64 a.k) rfl
    have na' := load_cell a6 (o := 1) (v := .int .i64 a.n) rfl
    have fa := load_cell a6 (o := 2) (v := .flt .f64 a.f) rfl
    have kb := load_cell g6 (o := 0) (v := .int .i64 b.k) rfl
    have nb' := load_cell g6 (o := 1) (v := .int .i64 b.n) rfl
    have fb := load_cell g6 (o := 2) (v := .flt .f64 b.f) rfl
    refine DCall.of_body (fn := Tryz.f34) (by kernel_rfl) c34 (by kernel_rfl) (by simp [f34]) ?_
    unfold f34
    simp only []
    refine DR.go rfl ?_
    simp -dsimp only [SZ, EZ, astep, aun, AVal.cells, seval, ← hH1, ← hH2]
    refine DR.nm rfl ?_
    refine DR.drawX mixed (x := 3) (ms := m34_1) (by kernel_rfl) (noSlot_ok (by rfl)) ?_
    have la3 := load_all (n := 5) ((f3 _ (by omega)).trans a2) rfl
    have lb3 := load_all (n := 5) ((f3 _ (by omega)).trans g2) rfl
    have la4 := load_all (n := 5) ((f4 _ (by omega)).trans ((f3 _ (by omega)).trans a2)) rfl
    have lb4 := load_all (n := 5) ((f4 _ (by omega)).trans ((f3 _ (by omega)).trans g2)) rfl
    have lb5 := load_all (n := 5) ((f5 _ (by omega)).trans ((f4 _ (by omega)).trans ((f3 _ (by omega)).trans g2))) rfl
    simp -dsimp only [m34_1, SZ, EZ, astep, aun, AVal.cells, seval, DS_nil, DS_cons, seesAll, staysAll, abit, List.getD_cons_zero, List.getD_cons_succ, AOp.quiet, AOp.reads, true_and, and_true, decide_true, decide_false, and_self, la2, lb2, la3, lb3, la4, lb4, lb5, ← hz, ← hH3, ← hH4, s5, ← hH5, s6, ← hH6]
    have one : ∀ k : Int, k = 1 → abin .eql (.int .i64 k) (.int .i64 1) = some (.bool true) := fun k h => by rw [eql_dec]; simp [h]
    have two : ∀ k : Int, k = 2 → abin .eql (.int .i64 k) (.int .i64 1) = some (.bool false) := fun k h => by rw [eql_dec]; simp [h]
    rcases na with hka | ⟨hka, hfa⟩
    · have ca := one _ hka
      rcases nb with hkb | ⟨hkb, hfb⟩
      · have cb := one _ hkb
        refine DR.go rfl ?_
        simp -dsimp only [SZ, EZ, astep, aun, AVal.cells, seval, ka, ca, kb, cb]
        refine DR.ye rfl rfl ?_
        refine DR.go rfl ?_
        simp -dsimp only [SZ, EZ, astep, aun, AVal.cells, seval, na', nb']
        refine (g136 a.n b.n H6).mono ?_
        rintro r H' ⟨rfl, he⟩
        obtain rfl := he.symm
        simp -dsimp only [SZ, EZ, astep, aun, AVal.cells, seval]
        refine DR.nm rfl ?_
        exact DR.ret ⟨_, by simp [aresult, ares, Env.get] <;> rfl, _, rfl, by unfold numv; rw [if_pos ⟨hka, hkb⟩]⟩
      · have cb := two _ hkb
        refine DR.go rfl ?_
        simp -dsimp only [SZ, EZ, astep, aun, AVal.cells, seval, ka, ca, kb, cb]
        refine DR.ne rfl rfl ?_
        refine DR.go rfl ?_
        simp -dsimp only [SZ, EZ, astep, aun, AVal.cells, seval, ka, ca]
        refine DR.ye rfl rfl ?_
        refine DR.go rfl ?_
        simp -dsimp only [SZ, EZ, astep, aun, AVal.cells, seval, fb, na']
        refine (g137 hfb a.n H6).mono ?_
        rintro r H' ⟨rfl, he⟩
        obtain rfl := he.symm
        simp -dsimp only [SZ, EZ, astep, aun, AVal.cells, seval]
        refine DR.nm rfl ?_
        exact DR.ret ⟨_, by simp [aresult, ares, Env.get] <;> rfl, _, rfl, by unfold numv; rw [if_neg (by omega), if_pos hka]; have := exactv_in b.f a.n; rw [IntKind.wrap_i64]; omega⟩
    · have ca := two _ hka
      rcases nb with hkb | ⟨hkb, hfb⟩
      · have cb := one _ hkb
        refine DR.go rfl ?_
        simp -dsimp only [SZ, EZ, astep, aun, AVal.cells, seval, ka, ca]
        refine DR.ne rfl rfl ?_
        refine DR.go rfl ?_
        simp -dsimp only [SZ, EZ, astep, aun, AVal.cells, seval, ka, ca]
        refine DR.ne rfl rfl ?_
        refine DR.go rfl ?_
        simp -dsimp only [SZ, EZ, astep, aun, AVal.cells, seval, kb, cb]
        refine DR.ye rfl rfl ?_
        refine DR.go rfl ?_
        simp -dsimp only [SZ, EZ, astep, aun, AVal.cells, seval, fa, nb']
        refine (g137 hfa b.n H6).mono ?_
        rintro r H' ⟨rfl, he⟩
        obtain rfl := he.symm
        simp -dsimp only [SZ, EZ, astep, aun, AVal.cells, seval]
        refine DR.nm rfl ?_
        exact DR.ret ⟨_, by simp [aresult, ares, Env.get] <;> rfl, _, rfl, by unfold numv; rw [if_neg (by omega), if_neg (by omega), if_pos hkb]⟩
      · have cb := two _ hkb
        refine DR.go rfl ?_
        simp -dsimp only [SZ, EZ, astep, aun, AVal.cells, seval, ka, ca]
        refine DR.ne rfl rfl ?_
        refine DR.go rfl ?_
        simp -dsimp only [SZ, EZ, astep, aun, AVal.cells, seval, ka, ca]
        refine DR.ne rfl rfl ?_
        refine DR.go rfl ?_
        simp -dsimp only [SZ, EZ, astep, aun, AVal.cells, seval, kb, cb]
        refine DR.ne rfl rfl ?_
        refine DR.go rfl ?_
        simp -dsimp only [SZ, EZ, astep, aun, AVal.cells, seval, fa, fb]
        refine (g138 a.f b.f H6).mono ?_
        rintro r H' ⟨rfl, he⟩
        obtain rfl := he.symm
        simp -dsimp only [SZ, EZ, astep, aun, AVal.cells, seval]
        refine DR.nm rfl ?_
        exact DR.ret ⟨_, by simp [aresult, ares, Env.get] <;> rfl, _, rfl, by unfold numv; rw [if_neg (by omega), if_neg (by omega), if_neg (by omega)]⟩
  exact (DCall.ints (TM.pures22 a b) h H).mono fun r H' ⟨⟨n, h1, h3⟩, h2⟩ => ⟨by rw [h1, h3], h2⟩

section
variable {u v : TM} {k k' : List AItem} {Q : Env → AHeap → Prop}
theorem loop140 (ou : u.ok) (ov : v.ok) (ih : ∀ x ∈ u.l, ∀ y ∈ v.l, ∀ H, DCall Tryz.prog 23 [x.agg, y.agg] H fun r H' => r = .int .i64 (ord x y) ∧ H' = H) (hk : aexitTo 0 k = some k')
    (hend : ∀ H, u.l.length ≤ v.l.length → ords u.l v.l = ords [] (v.l.drop u.l.length) → DR Tryz.prog (kof k68) 39 k' [(0, u.row), (1, v.row)] H Q)
    (hret : ∀ T H, T.get 6 = some (.int .i64 (ords u.l v.l)) → Q T H) :
    ∀ (e i : Nat) (H : AHeap), i + e = u.l.length → i ≤ v.l.length → ords u.l v.l = ords (u.l.drop i) (v.l.drop i) → DR Tryz.prog (kof k68) 39 (.code l68_0 :: .inLoop l68_0 :: k) [(0, u.row), (1, v.row), (2, .fn (.func 23) [] []), (11, u.row), (12, .int .i64 (u.l.length : Nat)), (13, .int .i64 (i : Nat))] H Q := by
  intro e
  induction e with
  | zero =>
    intro i H hi hiv heq
    have hc : abin .lss (.int .i64 (i : Nat)) (.int .i64 (u.l.length : Nat)) = some (.bool false) := by simp [abin]; omega
    refine DR.go rfl ?_
    simp -dsimp only [SZ, EZ, astep, aun, AVal.cells, seval, hc]
    refine DR.ne rfl rfl ?_
    refine DR.nm rfl ?_
    refine DR.exit hk ?_
    obtain rfl : i = u.l.length := by omega
    rw [List.drop_length] at heq
    exact DR.only [0, 1] (hend H hiv heq)
  | succ e ih2 =>
    intro i H hi hiv heq
    have hc : abin .lss (.int .i64 (i : Nat)) (.int .i64 (u.l.length : Nat)) = some (.bool true) := by simp [abin]; omega
    have hlt : i < u.l.length := by omega
    have hx : u.l[i]? = some u.l[i] := List.getElem?_eq_getElem hlt
    have ra := TM.row_at ou hx H
    have la := TM.load u.l[i] (TM.flat (u.l.drop (i + 1))) H
    have hle := TM.len_le ou
    have hadd : abin .add (.int .i64 (i : Nat)) (.int .i64 1) = some (.int .i64 ((i + 1 : Nat) : Int)) := add_nat (b := 1) (by omega)
    obtain ⟨H1, hH1, g1, n1, f1⟩ := psh H (.cells 25 [.int .i64 0, .int .i64 0, .flt .f64 0, .str ⟨#[]⟩, .nils])
    have st : astore H1 5 (.ptr H.next 0) (AVal.agg (TM.c5 u.l[i])) = some (H1.set H.next (.cells 25 (TM.c5 u.l[i]))) := store_all (n := 5) (new := TM.c5 u.l[i]) g1 rfl (TM.ones5 _) rfl
    obtain ⟨H2, hH2, g2, n2, f2⟩ := upd g1 (.cells 25 (TM.c5 u.l[i]))
    have hlv := TM.lenT ov H2
    have hdu : u.l.drop i = u.l[i] :: u.l.drop (i + 1) := List.drop_eq_getElem_cons hlt
    refine DR.go rfl ?_
    simp -dsimp only [SZ, EZ, astep, aun, AVal.cells, seval, hc]
    refine DR.ye rfl rfl ?_
    refine DR.go rfl ?_
    simp -dsimp only [SZ, EZ, astep, aun, AVal.cells, seval, ra, la, ← hH1, st, ← hH2]
    by_cases hv : i < v.l.length
    · have c2 : abin .geq (.int .i64 (i : Nat)) (.int .i64 (v.l.length : Nat)) = some (.bool false) := by simp [abin]; omega
      have hy : v.l[i]? = some v.l[i] := List.getElem?_eq_getElem hv
      have rb := TM.row_at ov hy H2
      have lb := TM.load v.l[i] (TM.flat (v.l.drop (i + 1))) H2
      obtain ⟨H3, hH3, g3, n3, f3⟩ := psh H2 (.cells 25 [.int .i64 0, .int .i64 0, .flt .f64 0, .str ⟨#[]⟩, .nils])
      have st3 : astore H3 5 (.ptr H2.next 0) (AVal.agg (TM.c5 v.l[i])) = some (H3.set H2.next (.cells 25 (TM.c5 v.l[i]))) := store_all (n := 5) (new := TM.c5 v.l[i]) g3 rfl (TM.ones5 _) rfl
      obtain ⟨H4, hH4, g4, n4, f4⟩ := upd g3 (.cells 25 (TM.c5 v.l[i]))
      have x4 : H4.get H.next = some (.cells 25 (TM.c5 u.l[i])) := by rw [f4 _ (by omega), f3 _ (by omega)]; exact g2
      have lx := load_all (n := 5) x4 rfl
      have ly := load_all (n := 5) g4 rfl
      have hdv : v.l.drop i = v.l[i] :: v.l.drop (i + 1) := List.drop_eq_getElem_cons hv
      refine DR.go rfl ?_
      simp -dsimp only [SZ, EZ, astep, aun, AVal.cells, seval, hlv, c2]
      refine DR.ne rfl rfl ?_
      refine DR.go rfl ?_
      simp -dsimp only [SZ, EZ, astep, aun, AVal.cells, seval, rb, lb, ← hH3, st3, ← hH4]
      refine DR.go rfl ?_
      simp -dsimp only [SZ, EZ, astep, aun, AVal.cells, seval, lx, ly, List.append_nil, List.nil_append]
      refine (ih _ (List.getElem_mem hlt) _ (List.getElem_mem hv) H4).mono ?_
      rintro r H' ⟨rfl, he⟩
      obtain rfl := he.symm
      simp -dsimp only [SZ, EZ, astep, aun, AVal.cells, seval]
      rw [hdu, hdv, ords] at heq
      by_cases h0 : ord u.l[i] v.l[i] = 0
      · have c3 : abin .neq (.int .i64 (ord u.l[i] v.l[i])) (.int .i64 0) = some (.bool false) := by rw [h0]; exact neq_int _ _
        refine DR.go rfl ?_
        simp -dsimp only [SZ, EZ, astep, aun, AVal.cells, seval, c3]
        refine DR.ne rfl rfl ?_
        refine DR.go rfl ?_
        simp -dsimp only [SZ, EZ, astep, aun, AVal.cells, seval, hadd]
        refine DR.nm rfl ?_
        refine DR.inLoop ?_
        rw [if_neg (by omega)] at heq
        exact ih2 (i + 1) H4 (by omega) (by omega) heq
      · have c3 : abin .neq (.int .i64 (ord u.l[i] v.l[i])) (.int .i64 0) = some (.bool true) := by simp [abin, h0]
        refine DR.go rfl ?_
        simp -dsimp only [SZ, EZ, astep, aun, AVal.cells, seval, c3]
        refine DR.ye rfl rfl ?_
        refine DR.go rfl ?_
        simp -dsimp only [SZ, EZ, astep, aun, AVal.cells, seval]
        refine DR.nm rfl ?_
        rw [if_pos h0] at heq
        exact DR.ret (hret _ _ (by rw [heq]; rfl))
    · have c2 : abin .geq (.int .i64 (i : Nat)) (.int .i64 (v.l.length : Nat)) = some (.bool true) := by simp [abin]; omega
      have hdv : v.l.drop i = [] := List.drop_eq_nil_of_le (by omega)
      rw [hdu, hdv, ords] at heq
      refine DR.go rfl ?_
      simp -dsimp only [SZ, EZ, astep, aun, AVal.cells, seval, hlv, c2]
      refine DR.ye rfl rfl ?_
      refine DR.go rfl ?_
      simp -dsimp only [SZ, EZ, astep, aun, AVal.cells, seval]
      refine DR.nm rfl ?_
      exact DR.ret (hret _ _ (by rw [heq]; rfl))
end
theorem TM.purerr (u v : TM) : AVal.pures [u.row, v.row] = true := by
  have h1 := TM.purer (u := u)
  have h2 := TM.purer (u := v)
  simp only [AVal.pures, Bool.and_true] at h1 h2 ⊢
  rw [h1, h2]; rfl
theorem g140 {u v : TM} (ou : u.ok) (ov : v.ok) (ih : ∀ x ∈ u.l, ∀ y ∈ v.l, ∀ H, DCall Tryz.prog 23 [x.agg, y.agg] H fun r H' => r = .int .i64 (ord x y) ∧ H' = H) (H : AHeap) :
    DCall Tryz.prog 68 [u.row, v.row, .fn (.func 23) [] []] H fun r H' => ∃ n, r = .int .i64 n ∧ n = ords u.l v.l := by
  have hlu := TM.lenT ou H
  refine DCall.of_body (fn := Tryz.f68) (by kernel_rfl) c68 (by kernel_rfl) (by simp [f68]) ?_
  unfold f68
  simp only []
  refine DR.go rfl ?_
  simp -dsimp only [SZ, EZ, astep, aun, AVal.cells, seval]
  refine DR.go rfl ?_
  simp -dsimp only [SZ, EZ, astep, aun, AVal.cells, seval, hlu]
  refine DR.nm rfl ?_
  refine DR.loop ?_
  refine loop140 ou ov ih rfl (fun H8 hle heq => ?_) (fun T H8 hT => ⟨.int .i64 (ords u.l v.l), by simp [aresult, ares, hT], _, rfl, rfl⟩) u.l.length 0 H (by omega) (by omega) (by simp)
  have hlu := TM.lenT ou H8
  have hlv := TM.lenT ov H8
  by_cases h : u.l.length < v.l.length
  · have c : abin .lss (.int .i64 (u.l.length : Nat)) (.int .i64 (v.l.length : Nat)) = some (.bool true) := by simp [abin]; omega
    have hd : v.l.drop u.l.length = v.l[u.l.length] :: v.l.drop (u.l.length + 1) := List.drop_eq_getElem_cons h
    refine DR.go rfl ?_
    simp -dsimp only [SZ, EZ, astep, aun, AVal.cells, seval, hlu, hlv, c]
    refine DR.ye rfl rfl ?_
    refine DR.go rfl ?_
    simp -dsimp only [SZ, EZ, astep, aun, AVal.cells, seval]
    refine DR.nm rfl ?_
    exact DR.ret ⟨_, by simp [aresult, ares, Env.get] <;> rfl, _, rfl, by rw [heq, hd]; simp [ords]⟩
  · have c : abin .lss (.int .i64 (u.l.length : Nat)) (.int .i64 (v.l.length : Nat)) = some (.bool false) := by simp [abin]; omega
    have hd : v.l.drop u.l.length = [] := List.drop_eq_nil_of_le (by omega)
    refine DR.go rfl ?_
    simp -dsimp only [SZ, EZ, astep, aun, AVal.cells, seval, hlu, hlv, c]
    refine DR.ne rfl rfl ?_
    refine DR.go rfl ?_
    simp -dsimp only [SZ, EZ, astep, aun, AVal.cells, seval]
    refine DR.nm rfl ?_
    exact DR.ret ⟨_, by simp [aresult, ares, Env.get] <;> rfl, _, rfl, by rw [heq, hd]; simp [ords]⟩
theorem g92 {u v : TM} (ou : u.ok) (ov : v.ok) (ih : ∀ x ∈ u.l, ∀ y ∈ v.l, ∀ H, DCall Tryz.prog 23 [x.agg, y.agg] H fun r H' => r = .int .i64 (ord x y) ∧ H' = H) (H : AHeap) :
    DCall Tryz.prog 36 [u.row, v.row] H fun r H' => r = .int .i64 (ords u.l v.l) ∧ H' = H := by
  have h : DCall Tryz.prog 36 [u.row, v.row] AHeap.empty fun r H' => ∃ n, r = .int .i64 n ∧ n = ords u.l v.l := by
    refine DCall.of_body (fn := Tryz.f36) (by kernel_rfl) c36 (by kernel_rfl) (by simp [f36]) ?_
    unfold f36
    simp only []
    refine DR.go rfl ?_
    simp -dsimp only [SZ, EZ, astep, aun, AVal.cells, seval]
    refine DR.go rfl ?_
    simp -dsimp only [SZ, EZ, astep, aun, AVal.cells, seval, List.append_nil, List.nil_append]
    refine (g140 ou ov ih AHeap.empty).mono ?_
    rintro r H' ⟨n, rfl, rfl⟩
    simp -dsimp only [SZ, EZ, astep, aun, AVal.cells, seval]
    refine DR.nm rfl ?_
    exact DR.ret ⟨_, by simp [aresult, ares, Env.get] <;> rfl, _, rfl, rfl⟩
  exact (DCall.ints (TM.purerr u v) h H).mono fun r H' ⟨⟨n, h1, h3⟩, h2⟩ => ⟨by rw [h1, h3], h2⟩
end Go.Am.Rl
