/- Floats' texts, without the program. -/
import Derived.Test.YtmoimchdhgoeeaaDoorVD
set_option linter.unusedVariables false
set_option linter.unusedSimpArgs false
namespace Go.Am.Rl
open Go.Proofs

theorem strOf_cat (a b : List Int) : strOf a ++ strOf b = strOf (a ++ b) := by
  apply ByteArray.ext
  rw [ByteArray.data_append]
  simp [strOf]
theorem strOf_at {l : List Int} {i : Nat} {n : Int} (h : l[i]? = some n) : (strOf l)[i]? = some (UInt8.ofNat n.toNat) := by
  have hlt : i < l.length := (List.getElem?_eq_some_iff.mp h).1
  have hs : i < (strOf l).size := by rw [strOf_size]; exact hlt
  have e : (strOf l).data[i]? = some (UInt8.ofNat n.toNat) := by unfold strOf; simp [h]
  rw [getElem?_pos (strOf l) i hs]
  rw [getElem?_pos (strOf l).data i hs] at e
  exact e
theorem strOf_end {l : List Int} {i : Nat} (h : l.length ≤ i) : (strOf l)[i]? = none := byte_none (by rw [strOf_size]; omega)
theorem u8_nat {n : Nat} (h : n < 256) : (UInt8.ofNat ((n : Int)).toNat).toNat = n := by
  rw [Int.toNat_natCast, UInt8.toNat_ofNat']
  exact Nat.mod_eq_of_lt h
theorem wrapU64 {n : Nat} (h : n < 18446744073709551616) : IntKind.u64.wrap (n : Int) = (n : Int) := by
  rw [IntKind.wrap_u64]
  omega
theorem wrapU8 {n : Nat} (h : n < 256) : IntKind.u8.wrap (n : Int) = (n : Int) := by
  rw [IntKind.wrap_u8]
  omega

/-! ### Sixteen digits -/
def hexc (d : Nat) : Nat := if d < 10 then 48 + d else 87 + d
theorem hexc_lt {d : Nat} (h : d < 16) : hexc d < 256 := by unfold hexc; split <;> omega
theorem hexv_hexc : ∀ d, d < 16 → hexv (hexc d) = (d : Int) := by decide
def hexd (u j : Nat) : Nat := u / 16 ^ (15 - j) % 16
def hexL (u n : Nat) : List Int := (List.range n).map fun j => ((hexc (hexd u j) : Nat) : Int)
theorem hexL_at {u n j : Nat} (h : j < n) : (hexL u n)[j]? = some ((hexc (hexd u j) : Nat) : Int) := by
  unfold hexL
  rw [List.getElem?_map, List.getElem?_range h]; rfl
theorem hexL_succ (u n : Nat) : hexL u (n + 1) = hexL u n ++ [((hexc (hexd u n) : Nat) : Int)] := by
  unfold hexL
  rw [List.range_succ, List.map_append]; rfl
theorem hexL_len (u n : Nat) : (hexL u n).length = n := by simp [hexL]
theorem accU_eq {a d : Nat} (ha : a * 16 + 15 < 18446744073709551616) (hd : d < 16) : accU (a : Nat) (d : Nat) = ((a * 16 + d : Nat) : Int) := by
  have e1 : shU (a : Int) = ((a * 16 : Nat) : Int) := by
    unfold shU
    have : (a : Int) * 2 ^ (min (4 : Int).toNat IntKind.u64.bits) = ((a * 16 : Nat) : Int) := by
      have : min (4 : Int).toNat IntKind.u64.bits = 4 := by decide
      rw [this]; omega
    rw [this]; exact wrapU64 (by omega)
  have e2 : IntKind.u64.wrap (d : Int) = (d : Int) := wrapU64 (by omega)
  unfold accU orU
  rw [e1, e2]
  have hb : IntKind.u64.bits = 64 := by decide
  have h1 : (BitVec.ofInt IntKind.u64.bits ((a * 16 : Nat) : Int) ||| BitVec.ofInt IntKind.u64.bits (d : Int)).toNat = a * 16 + d := by
    rw [hb, BitVec.toNat_or, BitVec.ofInt_natCast, BitVec.ofInt_natCast, BitVec.toNat_ofNat, BitVec.toNat_ofNat, Nat.mod_eq_of_lt (by omega), Nat.mod_eq_of_lt (by omega)]
    have := Nat.shiftLeft_add_eq_or_of_lt (i := 4) hd a
    rw [Nat.shiftLeft_eq] at this
    exact this.symm
  rw [h1]
  exact wrapU64 (by omega)
theorem hex_bits {s : ByteArray} {u : Nat} (hu : u < 18446744073709551616) (hs : ∀ j, j < 16 → s[1 + j]? = some (UInt8.ofNat ((hexc (hexd u j) : Nat) : Int).toNat)) :
    ∀ n, n ≤ 16 → bitsW s n (17 - n) ((u / 16 ^ n : Nat) : Int) = some (u : Int) := by
  intro n
  induction n with
  | zero => intro _; simp [bitsW]
  | succ n ih =>
    intro hn
    have hd : hexd u (15 - n) < 16 := Nat.mod_lt _ (by decide)
    have hb := hs (15 - n) (by omega)
    have e1 : 1 + (15 - n) = 17 - (n + 1) := by omega
    have e2 : 17 - (n + 1) + 1 = 17 - n := by omega
    have e3 : hexd u (15 - n) = u / 16 ^ n % 16 := by unfold hexd; congr 3; omega
    rw [e1] at hb
    have hq : u / 16 ^ (n + 1) = u / 16 ^ n / 16 := by rw [Nat.pow_succ, Nat.div_div_eq_div_mul]
    have hle : u / 16 ^ n ≤ u := Nat.div_le_self _ _
    simp only [bitsW, hb]
    rw [u8_nat (hexc_lt hd), hexv_hexc _ hd, e2]
    have hneg : decide (((hexd u (15 - n) : Nat) : Int) < 0) = false := decide_eq_false (by omega)
    rw [hneg, if_neg (by simp), accU_eq (by omega) hd, hq, e3]
    have : u / 16 ^ n / 16 * 16 + u / 16 ^ n % 16 = u / 16 ^ n := by omega
    rw [this]
    exact ih (by omega)
def hexS (u : Nat) : ByteArray := strOf (35 :: hexL u 16)
theorem hexS_bits {u : Nat} (hu : u < 18446744073709551616) : bits (hexS u) 0 = if fin u = true then some u else none := by
  have h := hex_bits (s := hexS u) hu (fun j hj => strOf_at (by rw [Nat.add_comm]; exact hexL_at hj)) 16 (by omega)
  have e0 : u / 16 ^ 16 = 0 := Nat.div_eq_of_lt hu
  rw [e0] at h
  unfold bits
  have h' : bitsW (hexS u) 16 (0 + 1) 0 = some (u : Int) := h
  rw [h']
  simp
theorem hexS_tokens {u : Nat} (hu : u < 18446744073709551616) : tokens (hexS u) = if fin u = true then .inr [tokC 4 ⟨#[]⟩ 0 u 0, tokC 8 ⟨#[]⟩ 0 0 17] else .inl (22, 0) := by
  have hsz : (hexS u).size = 17 := by unfold hexS; rw [strOf_size, List.length_cons, hexL_len]
  have h0 : (hexS u)[0]? = some (35 : UInt8) := strOf_at (l := 35 :: hexL u 16) (i := 0) (n := 35) rfl
  have hp : pass (hexS u) 0 = 0 := pass_stop h0 (by decide) (by decide)
  have ht : token (hexS u) 0 (35 : UInt8).toNat (0 : Nat) = bitTok (hexS u) 0 (0 : Nat) := by
    unfold token
    rw [if_neg (by decide), if_neg (by decide), if_pos (by decide)]
  unfold tokens
  rw [hsz, if_neg (by decide), hp]
  cases hf : fin u with
  | true =>
    have hb : bits (hexS u) 0 = some u := by rw [hexS_bits hu, if_pos hf]
    have ht2 : token (hexS u) 0 (35 : UInt8).toNat (0 : Nat) = .inr (tokC 4 ⟨#[]⟩ 0 u 0, 17) := by rw [ht]; unfold bitTok; rw [hb]; rfl
    have hp17 : pass (hexS u) 17 = 17 := pass_end (byte_none (by omega))
    rw [toks_more h0 ht2]
    dsimp only
    rw [hp17, toks_end (byte_none (by omega)), if_pos rfl]
    unfold endTok
    rw [hsz]; rfl
  | false =>
    have hb : bits (hexS u) 0 = none := by rw [hexS_bits hu, if_neg (by simp [hf])]
    have ht2 : token (hexS u) 0 (35 : UInt8).toNat (0 : Nat) = .inl 22 := by rw [ht]; unfold bitTok; rw [hb]
    rw [toks_bad h0 ht2, if_neg (by simp)]
    rfl

/-! ### Decimals -/
def stepN (v : Nat) (c : Int) : Nat := 10 * v + (c - 48).toNat
def digOk (c : Int) : Prop := 48 ≤ c ∧ c ≤ 57
theorem foldN_ge : ∀ (l : List Int) (v : Nat), v ≤ l.foldl stepN v
  | [], v => Nat.le_refl _
  | c :: l, v => by
    have := foldN_ge l (stepN v c)
    unfold stepN at this
    simp only [List.foldl_cons]
    unfold stepN
    omega
theorem wholeW_fold {s : ByteArray} : ∀ (l : List Int) (i v : Nat), (∀ j, j < l.length → s[i + j]? = (l[j]?).map fun n => UInt8.ofNat n.toNat) → (∀ c ∈ l, digOk c) → l.foldl stepN v < 900000000000000000 →
    wholeW s l.length i (v : Int) = ((l.foldl stepN v : Nat) : Int)
  | [], i, v, _, _, _ => rfl
  | c :: l, i, v, hs, hd, hlt => by
    have h0 := hs 0 (by simp)
    have hc := hd c (List.mem_cons_self ..)
    obtain ⟨n, rfl⟩ : ∃ n : Nat, c = n := ⟨c.toNat, by unfold digOk at hc; omega⟩
    have hn : 48 ≤ n ∧ n ≤ 57 := by unfold digOk at hc; omega
    have hge := foldN_ge l (stepN v n)
    have h10 : 10 * v ≤ stepN v n := by unfold stepN; omega
    simp only [List.foldl_cons] at hlt ⊢
    have h0 : s[i]? = some (UInt8.ofNat (n : Int).toNat) := h0
    have hst : stepD (v : Int) (UInt8.ofNat (n : Int).toNat) = ((stepN v n : Nat) : Int) := by
      unfold stepD
      rw [u8_nat (by omega)]
      have e1 : IntKind.u8.wrap ((n : Int) - 48) = ((n - 48 : Nat) : Int) := by
        have := wrapU8 (n := n - 48) (by omega)
        rw [← this]; congr 1; omega
      have e2 : IntKind.i64.wrap (10 * (v : Int)) = ((10 * v : Nat) : Int) := by
        have := wrap64 (n := 10 * v) (by omega)
        rw [← this]; congr 1
      have e3 : IntKind.i64.wrap (((10 * v : Nat) : Int) + ((n - 48 : Nat) : Int)) = ((stepN v n : Nat) : Int) := by
        have := wrap64 (n := stepN v n) (by omega)
        rw [← this]; congr 1
        unfold stepN; omega
      rw [e1, e2, wrap64 (n := n - 48) (by omega), e3]
    simp only [List.length_cons, wholeW, h0, hst]
    refine wholeW_fold l (i + 1) (stepN v n) (fun j hj => ?_) (fun c hc => hd c (List.mem_cons_of_mem _ hc)) hlt
    have := hs (j + 1) (by simp; omega)
    rw [List.getElem?_cons_succ] at this
    rw [← this]; congr 1; omega
theorem whole_fold {l : List Int} (hd : ∀ c ∈ l, digOk c) (hlt : l.foldl stepN 0 < 900000000000000000) : whole (strOf l) = ((l.foldl stepN 0 : Nat) : Int) := by
  unfold whole
  rw [strOf_size]
  refine wholeW_fold l 0 0 (fun j hj => ?_) hd hlt
  rw [Nat.zero_add, strOf_at (List.getElem?_eq_getElem hj), List.getElem?_eq_getElem hj]; rfl
theorem dig_byte {c : Int} (h : digOk c) : isDig (UInt8.ofNat c.toNat).toNat = true := by
  obtain ⟨n, rfl⟩ : ∃ n : Nat, c = n := ⟨c.toNat, by unfold digOk at h; omega⟩
  have hn : 48 ≤ n ∧ n ≤ 57 := by unfold digOk at h; omega
  rw [u8_nat (by omega)]
  unfold isDig
  simp; omega
theorem skipW_run {p : Nat → Bool} {s : ByteArray} {e : Nat} : ∀ (n i : Nat), i ≤ e → e - i < n → (∀ j, i ≤ j → j < e → ∃ b, s[j]? = some b ∧ p b.toNat = true) → (∀ b, s[e]? = some b → p b.toNat = false) → skipW p s n i = e
  | 0, i, _, h, _, _ => by omega
  | n + 1, i, hi, hn, hall, hend => by
    by_cases he : i = e
    · subst he
      unfold skipW
      split
      · rename_i b hb
        rw [hend b hb, if_neg (by simp)]
      · rfl
    · obtain ⟨b, hb, hp⟩ := hall i (Nat.le_refl _) (by omega)
      simp only [skipW, hb, hp, if_true]
      exact skipW_run n (i + 1) (by omega) (by omega) (fun j h1 h2 => hall j (by omega) h2) hend
theorem skip_run {p : Nat → Bool} {s : ByteArray} {i e : Nat} (hi : i ≤ e) (he : e ≤ s.size) (hall : ∀ j, i ≤ j → j < e → ∃ b, s[j]? = some b ∧ p b.toNat = true) (hend : ∀ b, s[e]? = some b → p b.toNat = false) : skip p s i = e := by
  rw [skip]
  rcases Nat.lt_or_ge e s.size with h | h
  · exact skipW_run _ _ hi (by omega) hall hend
  · have : e = s.size := by omega
    subst this
    have h1 := (skipW_le p s (s.size - i) i (by omega)).2
    by_cases hlt : skipW p s (s.size - i) i = s.size
    · exact hlt
    · have h2 := skipW_run (p := p) (s := s) (e := s.size) (s.size - i + 1) i hi (by omega) hall hend
      have h3 : ∀ n i, s.size - i ≤ n → skipW p s (n + 1) i = skipW p s n i := by
        intro n
        induction n with
        | zero => intro i h; simp only [skipW, byte_none (show ¬ i < s.size by omega)]
        | succ n ih =>
          intro i h
          rw [skipW]
          conv => rhs; rw [skipW]
          split
          · split
            · exact ih (i + 1) (by omega)
            · rfl
          · rfl
      rw [h3 _ _ (Nat.le_refl _)] at h2
      exact h2
end Go.Am.Rl

