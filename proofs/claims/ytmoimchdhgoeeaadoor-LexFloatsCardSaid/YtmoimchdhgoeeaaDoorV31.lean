/- Decimals' texts, without the program. -/
import Derived.Test.YtmoimchdhgoeeaaDoorV30
set_option linter.unusedVariables false
set_option linter.unusedSimpArgs false
namespace Go.Am.Rl
open Go.Proofs

theorem strOf_extract (l : List Int) (a b : Nat) : (strOf l).extract a b = strOf ((l.drop a).take (b - a)) := by
  apply ByteArray.ext
  rw [ByteArray.data_extract]
  simp [strOf, List.map_take, List.map_drop]
theorem dig_name {c : Nat} (h : isDig c = true) : isName c = false := by
  unfold isDig at h
  unfold isName isLow isUp
  have h1 : 48 ≤ c ∧ c ≤ 57 := by simpa using h
  have e1 : decide (97 ≤ c) = false := decide_eq_false (by omega)
  have e2 : decide (65 ≤ c) = false := decide_eq_false (by omega)
  have e3 : ((c : Int) == 95) = false := by rw [beq_eq_false_iff_ne]; omega
  rw [e1, e2, e3]; rfl
theorem dig_stop {c : Nat} (h : isDig c = true) : ((c : Int) == 37) = false ∧ blank c = false := by
  unfold isDig at h
  have h1 : 48 ≤ c ∧ c ≤ 57 := by simpa using h
  refine ⟨by rw [beq_eq_false_iff_ne]; omega, ?_⟩
  unfold blank
  have e1 : ((c : Int) == 9) = false := by rw [beq_eq_false_iff_ne]; omega
  have e2 : ((c : Int) == 10) = false := by rw [beq_eq_false_iff_ne]; omega
  have e3 : ((c : Int) == 13) = false := by rw [beq_eq_false_iff_ne]; omega
  have e4 : ((c : Int) == 32) = false := by rw [beq_eq_false_iff_ne]; omega
  rw [e1, e2, e3, e4]; rfl
theorem dec_tokens {hl fl : List Int} {v : Nat} (hd : ∀ c ∈ hl, digOk c) (fd : ∀ c ∈ fl, digOk c) (h1 : 1 ≤ hl.length) (hlead : ∀ c, 1 < hl.length → hl[0]? = some c → c ≠ 48) (f1 : 1 ≤ fl.length) (hsum : hl.length + fl.length ≤ 15) (hv : (hl ++ fl).foldl stepN 0 = v) (hvlt : v < 900000000000000000) :
    tokens (strOf (hl ++ 46 :: fl)) = .inr [tokC 4 ⟨#[]⟩ 0 (quoW v fl.length) 0, tokC 8 ⟨#[]⟩ 0 0 ((hl.length + 1 + fl.length : Nat) : Int)] := by
  obtain ⟨s, hs⟩ : ∃ s, s = strOf (hl ++ 46 :: fl) := ⟨_, rfl⟩
  obtain ⟨j, hj⟩ : ∃ j, j = hl.length := ⟨_, rfl⟩
  rw [← hs, ← hj]
  have hsz : s.size = j + 1 + fl.length := by rw [hs, strOf_size, List.length_append, List.length_cons, ← hj]; omega
  have atH : ∀ q, q < j → ∃ c, hl[q]? = some c ∧ digOk c ∧ s[q]? = some (UInt8.ofNat c.toNat) := by
    intro q hq
    refine ⟨hl[q]'(by omega), List.getElem?_eq_getElem (by omega), hd _ (List.getElem_mem _), ?_⟩
    rw [hs]
    exact strOf_at (by rw [List.getElem?_append_left (by omega)]; exact List.getElem?_eq_getElem (by omega))
  have atD : s[j]? = some (46 : UInt8) := by
    rw [hs]
    exact strOf_at (n := 46) (by rw [List.getElem?_append_right (by omega), ← hj, Nat.sub_self]; rfl)
  have atF : ∀ q, q < fl.length → ∃ c, fl[q]? = some c ∧ digOk c ∧ s[j + 1 + q]? = some (UInt8.ofNat c.toNat) := by
    intro q hq
    refine ⟨fl[q]'hq, List.getElem?_eq_getElem hq, fd _ (List.getElem_mem _), ?_⟩
    rw [hs]
    refine strOf_at ?_
    rw [List.getElem?_append_right (by omega)]
    have : j + 1 + q - hl.length = q + 1 := by omega
    rw [this, List.getElem?_cons_succ]
    exact List.getElem?_eq_getElem hq
  obtain ⟨c0, hc0, hg0, hb0⟩ := atH 0 (by omega)
  have hdg0 := dig_byte hg0
  obtain ⟨hn37, hnb⟩ := dig_stop hdg0
  have hp0 : pass s 0 = 0 := pass_stop hb0 hn37 hnb
  have hskip : skip isDig s 0 = j := skip_run (by omega) (by omega)
    (fun q _ hq => by obtain ⟨c, _, hg, hb⟩ := atH q hq; exact ⟨_, hb, dig_byte hg⟩)
    (fun b hb => by rw [atD] at hb; injection hb with hb; subst hb; decide)
  have hskip2 : skip isDig s (j + 1) = s.size := skip_run (by omega) (Nat.le_refl _)
    (fun q h1 h2 => by
      obtain ⟨c, _, hg, hb⟩ := atF (q - (j + 1)) (by omega)
      have : j + 1 + (q - (j + 1)) = q := by omega
      rw [this] at hb
      exact ⟨_, hb, dig_byte hg⟩)
    (fun b hb => by rw [byte_none (by omega)] at hb; cases hb)
  have hext : s.extract 0 j = strOf hl := by
    rw [hs, strOf_extract]
    congr 1
    rw [List.drop_zero, Nat.sub_zero, hj, List.take_left']
    rfl
  have hext2 : s.extract (j + 1) s.size = strOf fl := by
    rw [hsz, hs, strOf_extract]
    congr 1
    have e1 : (hl ++ 46 :: fl).drop (j + 1) = fl := by
      rw [hj, List.drop_append]
      simp
    rw [e1, List.take_of_length_le (by omega)]
  have hdot : dotted s j = true := by
    obtain ⟨c, _, hg, hb⟩ := atF 0 (by omega)
    rw [dotted_at atD hb, dig_byte hg]
    decide
  have hnum : numTok s 0 0 = .inr (tokC 4 ⟨#[]⟩ 0 (quoW v fl.length) 0, s.size) := by
    unfold numTok
    rw [hskip, hext]
    unfold numAt
    have hl0 : (decide (((strOf hl).size : Int) > 1) && lead0 (strOf hl) 0) = false := by
      rw [strOf_size, ← hj]
      by_cases hj1 : 1 < j
      · have hc := hlead c0 (by omega) hc0
        have : lead0 (strOf hl) 0 = false := by
          unfold lead0
          rw [strOf_at hc0]
          obtain ⟨n, rfl⟩ : ∃ n : Nat, c0 = n := ⟨c0.toNat, by unfold digOk at hg0; omega⟩
          unfold digOk at hg0
          show (((UInt8.ofNat ((n : Int)).toNat).toNat : Int) == 48) = false
          rw [u8_nat (by omega), beq_eq_false_iff_ne]
          exact hc
        rw [this, Bool.and_false]
      · have : decide ((j : Int) > 1) = false := decide_eq_false (by omega)
        rw [this, Bool.false_and]
    rw [hl0, if_neg (by simp), hdot, if_pos rfl, hskip2, hext2]
    unfold numF
    have h15 : decide (((strOf hl).size : Int) + ((strOf fl).size : Int) > 15) = false := by
      rw [strOf_size, strOf_size]
      exact decide_eq_false (by omega)
    rw [h15, if_neg (by simp), strOf_cat, whole_fold (fun c hc => by rcases List.mem_append.mp hc with h | h; exact hd c h; exact fd c h) (by omega), hv, strOf_size]
  have ht : token s 0 (UInt8.ofNat c0.toNat).toNat (0 : Nat) = .inr (tokC 4 ⟨#[]⟩ 0 (quoW v fl.length) 0, s.size) := by
    unfold token
    rw [dig_name hdg0, if_neg (by simp), hdg0, if_pos rfl]
    exact hnum
  unfold tokens
  have hbig : decide ((s.size : Int) > 65536) = false := decide_eq_false (by omega)
  rw [hbig, if_neg (by simp), hp0, toks_more hb0 ht]
  dsimp only
  rw [pass_end (byte_none (by omega)), toks_end (byte_none (by omega))]
  unfold endTok
  rw [hsz]; rfl
/-- A quotient is no NaN. -/
theorem quo_nan (v : Int) {n : Nat} (hn : n < 16) : nanW (quoW v n) = false := by
  have h1 : (FloatKind.f64.format.read (FloatKind.f64.nearest v)).isNaN = false := nearest_read _ _ _
  have h2 := ten_read n hn
  have hi : ∀ s : Bool, (FloatKind.f64.format.read (FloatKind.f64.format.write (.infinity s))).isNaN = false := by decide
  unfold nanW quoW Ieee.Format.div
  revert h1 h2
  cases FloatKind.f64.format.read (FloatKind.f64.nearest v) with
  | nan s t => intro h1; cases h1
  | infinity s =>
    cases FloatKind.f64.format.read (ten10 n) with
    | nan s t => intro _ h; cases h
    | infinity s => intro _ h; cases h
    | number t m j => intro _ _; exact hi _
  | number s m' j' =>
    cases FloatKind.f64.format.read (ten10 n) with
    | nan s t => intro _ h; cases h
    | infinity s => intro _ h; cases h
    | number t m j =>
      intro _ h
      have hm : m ≠ 0 := by simpa using h
      simp only [Ieee.Datum.quotient, if_neg hm, Option.map_some, Option.getD_some]
      exact nearest_read _ _ _
end Go.Am.Rl

