/- Rows whose elements are one cell each. -/
import Derived.Test.YtilfjbbfabcdlaaGreatDoorAm25
import Derived.Laws.BitsLemmas
set_option linter.unusedVariables false
set_option linter.unusedSimpArgs false
namespace Go.Am

theorem wrap64 {n : Nat} (h : n < 9223372036854775808) : IntKind.i64.wrap (n : Int) = (n : Int) := by
  rw [IntKind.wrap_i64]
  omega

def rid : AVal → Option Nat
  | .sl id _ _ _ => some id
  | _ => none
def capOk : AVal → Bool
  | .sl _ _ n (some c) => decide (n ≤ c)
  | _ => true
/-- A row of a type's elements, and what is in it. -/
structure Row (H : AHeap) (t : TypeId) (x : AVal) (vs : List AVal) : Prop where
  cells : sliceCells H 1 x = some vs
  len : alen x = some vs.length
  typ : rowOf H t x = true
  cap : capOk x = true
  str : isStr x = false

theorem Row.nils (H : AHeap) (t : TypeId) : Row H t .nils [] := ⟨rfl, rfl, rfl, rfl, rfl⟩
theorem Row.ros (H : AHeap) (t : TypeId) (cs : List AVal) : Row H t (.ros cs cs.length) cs := ⟨by simp [sliceCells], rfl, rfl, rfl, rfl⟩
theorem Row.alenT {H H' : AHeap} {t : TypeId} {x : AVal} {vs : List AVal} (h : Row H t x vs) : alenT H' 1 x = some vs.length := by
  have h1 := h.len; have h2 := h.str
  clear h
  cases x <;> simp_all [alen, isStr, Go.Am.alenT]
theorem Row.frame {H H' : AHeap} {t : TypeId} {x : AVal} {vs : List AVal} (h : Row H t x vs) (hf : ∀ id, rid x = some id → H'.get id = H.get id) : Row H' t x vs := by
  obtain ⟨h1, h2, h3, h4, h5⟩ := h
  cases x with
  | sl id off n c =>
    have := hf id rfl
    refine ⟨?_, h2, ?_, h4, h5⟩
    · simp only [sliceCells, this] at h1 ⊢; exact h1
    · cases c <;> simp only [rowOf, this] at h3 ⊢; exact h3
  | _ => first | exact ⟨h1, h2, h3, h4, h5⟩ | (simp only [sliceCells] at h1; cases h1)

/-- An element's address. -/
def ea : AVal → Nat → AVal
  | .sl id off _ _, i => .ptr id (off + i)
  | .ros cs _, i => .rop (cs.drop i)
  | _, _ => .nilp
theorem Row.addr {H : AHeap} {t : TypeId} {x : AVal} {vs : List AVal} (h : Row H t x vs) (H' : AHeap) {k : IntKind} {i : Nat} (hi : i < vs.length) : aiaddr H' 1 x (.int k (i : Int)) = some (ea x i) := by
  have h1 := h.len
  have h2 := h.cells
  cases x <;> simp only [alen] at h1
  case nils => injection h1 with h1; omega
  case str s => have := h.str; simp [isStr] at this
  case sl id off n c =>
    injection h1 with h1
    simp only [aiaddr, ea, Nat.mul_one]
    rw [if_pos (by omega)]; simp
  case ros cs n =>
    injection h1 with h1
    simp only [sliceCells] at h2
    split at h2
    · simp only [aiaddr, ea, Nat.mul_one]
      rw [if_pos (by omega)]; simp
    · cases h2
  all_goals cases h1
theorem Row.load {H : AHeap} {t : TypeId} {x : AVal} {vs : List AVal} (h : Row H t x vs) {i : Nat} {v : AVal} (hi : vs[i]? = some v) : aload H none (ea x i) = some v := by
  have h1 := h.len
  have h2 := h.cells
  have hlt : i < vs.length := (List.getElem?_eq_some_iff.mp hi).1
  cases x <;> simp only [alen] at h1
  case nils => injection h1 with h1; omega
  case str s => have := h.str; simp [isStr] at this
  case sl id off n c =>
    injection h1 with h1
    simp only [sliceCells] at h2
    split at h2
    case h_2 => cases h2
    rename_i e cs hb
    split at h2
    case isFalse => cases h2
    rename_i hle
    injection h2 with h2
    have hd : (cs.drop (off + i)) = v :: cs.drop (off + i + 1) := by
      have hl : off + i < cs.length := by omega
      rw [List.drop_eq_getElem_cons hl]
      congr 1
      subst h2
      simp only [List.getElem?_take, List.getElem?_drop] at hi
      split at hi
      · rw [List.getElem?_eq_getElem hl] at hi; injection hi
      · cases hi
    simp only [aload, ea, cellsAt, hb]
    rw [if_pos (by omega), hd]
  case ros cs n =>
    injection h1 with h1
    simp only [sliceCells] at h2
    split at h2
    case isFalse => cases h2
    rename_i hle
    injection h2 with h2
    have hd : (cs.drop i) = v :: cs.drop (i + 1) := by
      have hl : i < cs.length := by omega
      rw [List.drop_eq_getElem_cons hl]
      congr 1
      subst h2
      simp only [List.getElem?_take] at hi
      split at hi
      · rw [List.getElem?_eq_getElem hl] at hi; injection hi
      · cases hi
    simp only [aload, ea, cellsAt]
    rw [hd]
  all_goals cases h1

theorem abound_at {T : Env} {o : AOpnd} {k : IntKind} {i : Nat} (ho : T.val o = some (.int k (i : Int))) (d : Nat) {top : Nat} (h : i ≤ top) : abound T d top (some o) = some i := by
  simp only [abound, ho]
  rw [if_pos (by omega)]; simp

theorem Row.upto {H : AHeap} {t : TypeId} {x : AVal} {vs : List AVal} (h : Row H t x vs) {T : Env} {o : AOpnd} {k : IntKind} {i : Nat} (ho : T.val o = some (.int k (i : Int))) (hi : i ≤ vs.length) :
    ∃ x', aslc 1 T x none (some o) none = some x' ∧ Row H t x' (vs.take i) ∧ (∀ id, rid x' = some id → rid x = some id) := by
  obtain ⟨h1, h2, h3, h4, h5⟩ := h
  cases x <;> simp only [alen] at h2
  case nils =>
    injection h2 with h2
    obtain rfl : i = 0 := by omega
    have hv : vs = [] := List.length_eq_zero_iff.mp h2.symm
    subst hv
    refine ⟨.nils, ?_, Row.nils _ _, fun id h => h⟩
    simp [aslc, abound, ho]
  case str s => simp [isStr] at h5
  case ros cs n =>
    injection h2 with h2
    simp only [sliceCells] at h1
    split at h1
    case isFalse => cases h1
    rename_i hle
    injection h1 with h1
    have hab := abound_at ho n (top := n) (by omega)
    refine ⟨.ros ((cs.drop 0).take i) i, ?_, ⟨?_, ?_, rfl, rfl, rfl⟩, fun id h => by cases h⟩
    · simp only [aslc, hab]
      simp [abound]; omega
    · simp only [sliceCells]
      rw [if_pos (by simp; omega)]
      subst h1
      simp [List.take_take, Nat.min_eq_left (by omega : i ≤ n)]
    · simp [alen]; omega
  case sl id off n c =>
    injection h2 with h2
    simp only [sliceCells] at h1
    split at h1
    case h_2 => cases h1
    rename_i e cs hb
    split at h1
    case isFalse => cases h1
    rename_i hle
    injection h1 with h1
    cases c with
    | none =>
      have hab := abound_at ho n (top := n) (by omega)
      by_cases hn : n = 0
      · refine ⟨.ros [] 0, ?_, ?_, fun id h => by cases h⟩
        · simp only [aslc, hab]; simp [abound, hn]
        · have : vs.take i = [] := by
            have : vs = [] := List.length_eq_zero_iff.mp (by omega)
            subst this; simp
          rw [this]; exact Row.ros H t []
      · refine ⟨.sl id off i none, ?_, ⟨?_, ?_, h3, rfl, rfl⟩, fun id h => h⟩
        · simp only [aslc, hab]; simp [abound, Ne.symm hn]
        · simp only [sliceCells, hb]
          rw [if_pos (by omega)]
          subst h1
          simp [List.take_take, Nat.min_eq_left (by omega : i ≤ n)]
        · simp [alen]; omega
    | some c =>
      simp only [capOk, decide_eq_true_eq] at h4
      have hab := abound_at ho n (top := c) (by omega)
      by_cases hn : c = 0
      · refine ⟨.ros [] 0, ?_, ?_, fun id h => by cases h⟩
        · have hi0 : i = 0 := by omega
          simp [aslc, abound, ho, hn, hi0]
        · have : vs.take i = [] := by
            have : vs = [] := List.length_eq_zero_iff.mp (by omega)
            subst this; simp
          rw [this]; exact Row.ros H t []
      · refine ⟨.sl id off i (some c), ?_, ⟨?_, ?_, h3, by simp [capOk]; omega, rfl⟩, fun id h => h⟩
        · have : abound T c c none = some c := rfl
          simp only [aslc, this, Option.bind_eq_bind, Option.bind_some, hab]
          simp [abound, hn]
        · simp only [sliceCells, hb]
          rw [if_pos (by omega)]
          subst h1
          simp [List.take_take, Nat.min_eq_left (by omega : i ≤ n)]
        · simp [alen]; omega
  all_goals cases h2

theorem Row.from {H : AHeap} {t : TypeId} {x : AVal} {vs : List AVal} (h : Row H t x vs) {T : Env} {o : AOpnd} {k : IntKind} {i : Nat} (ho : T.val o = some (.int k (i : Int))) (hi : i ≤ vs.length) :
    ∃ x', aslc 1 T x (some o) none none = some x' ∧ Row H t x' (vs.drop i) ∧ (∀ id, rid x' = some id → rid x = some id) := by
  obtain ⟨h1, h2, h3, h4, h5⟩ := h
  cases x <;> simp only [alen] at h2
  case nils =>
    injection h2 with h2
    obtain rfl : i = 0 := by omega
    have hv : vs = [] := List.length_eq_zero_iff.mp h2.symm
    subst hv
    refine ⟨.nils, ?_, Row.nils _ _, fun id h => h⟩
    simp only [aslc, abound_at ho 0 (Nat.le_refl 0)]
    simp [abound, ho]
  case str s => simp [isStr] at h5
  case ros cs n =>
    injection h2 with h2
    simp only [sliceCells] at h1
    split at h1
    case isFalse => cases h1
    rename_i hle
    injection h1 with h1
    have hab := abound_at ho 0 (top := n) (by omega)
    refine ⟨.ros ((cs.drop i).take (n - i)) (n - i), ?_, ⟨?_, ?_, rfl, rfl, rfl⟩, fun id h => by cases h⟩
    · have : abound T n n none = some n := rfl
      simp only [aslc, this, Option.bind_eq_bind, Option.bind_some, hab, Nat.mul_one]
      simp; omega
    · simp only [sliceCells]
      rw [if_pos (by simp; omega)]
      subst h1
      simp [List.take_take, List.drop_take]
    · simp [alen]; omega
  case sl id off n c =>
    injection h2 with h2
    simp only [sliceCells] at h1
    split at h1
    case h_2 => cases h1
    rename_i e cs hb
    split at h1
    case isFalse => cases h1
    rename_i hle
    injection h1 with h1
    have hbn : abound T n n none = some n := rfl
    have hab := abound_at ho 0 (top := n) (by omega)
    cases c with
    | none =>
      by_cases hn : i = n
      · refine ⟨.ros [] 0, ?_, ?_, fun id h => by cases h⟩
        · simp only [aslc, hbn, Option.bind_eq_bind, Option.bind_some, hab]; simp [hn]
        · have : vs.drop i = [] := List.drop_eq_nil_of_le (by omega)
          rw [this]; exact Row.ros H t []
      · refine ⟨.sl id (off + i * 1) (n - i) none, ?_, ⟨?_, ?_, h3, rfl, rfl⟩, fun id h => h⟩
        · simp only [aslc, hbn, Option.bind_eq_bind, Option.bind_some, hab]; simp [hn]
        · simp only [sliceCells, hb]
          rw [if_pos (by omega)]
          subst h1
          simp [List.drop_take, List.drop_drop]
        · simp [alen]; omega
    | some c =>
      simp only [capOk, decide_eq_true_eq] at h4
      have hbc : abound T c c none = some c := rfl
      have hbn' : abound T n c none = some n := rfl
      by_cases hn : c = i
      · refine ⟨.ros [] 0, ?_, ?_, fun id h => by cases h⟩
        · simp only [aslc, hbc, hbn', Option.bind_eq_bind, Option.bind_some, hab]; simp [hn]
        · have : vs.drop i = [] := List.drop_eq_nil_of_le (by omega)
          rw [this]; exact Row.ros H t []
      · refine ⟨.sl id (off + i * 1) (n - i) (some (c - i)), ?_, ⟨?_, ?_, h3, by simp [capOk]; omega, rfl⟩, fun id h => h⟩
        · simp only [aslc, hbc, hbn', Option.bind_eq_bind, Option.bind_some, hab]; simp [hn]
        · simp only [sliceCells, hb]
          rw [if_pos (by omega)]
          subst h1
          simp [List.drop_take, List.drop_drop]
        · simp [alen]; omega
  all_goals cases h2

/-- A row that is nobody else's. -/
def Own (H : AHeap) (t : TypeId) (x : AVal) (vs : List AVal) : Prop :=
  ∃ id, (x = .sl id 0 0 (some 0) ∧ H.get id = some (.cells t []) ∧ vs = []) ∨ (x = .sl id 0 vs.length none ∧ H.get id = some (.cells t vs))
theorem Own.row {H : AHeap} {t : TypeId} {x : AVal} {vs : List AVal} (h : Own H t x vs) : Row H t x vs := by
  obtain ⟨id, ⟨rfl, h1, rfl⟩ | ⟨rfl, h1⟩⟩ := h
  · exact ⟨by simp [sliceCells, h1], rfl, rfl, rfl, rfl⟩
  · exact ⟨by simp [sliceCells, h1], rfl, by simp [rowOf, h1], rfl, rfl⟩
theorem Own.lt {H : AHeap} {t : TypeId} {x : AVal} {vs : List AVal} (h : Own H t x vs) {i : Nat} (hi : rid x = some i) : i < H.next := by
  obtain ⟨id, ⟨rfl, h1, rfl⟩ | ⟨rfl, h1⟩⟩ := h <;> (simp only [rid, Option.some.injEq] at hi; subst hi; exact AHeap.get_lt h1)
theorem Own.frame {H H' : AHeap} {t : TypeId} {x : AVal} {vs : List AVal} (h : Own H t x vs) (hf : ∀ id, rid x = some id → H'.get id = H.get id) : Own H' t x vs := by
  obtain ⟨id, ⟨rfl, h1, rfl⟩ | ⟨rfl, h1⟩⟩ := h
  · exact ⟨id, .inl ⟨rfl, (hf id rfl).trans h1, rfl⟩⟩
  · exact ⟨id, .inr ⟨rfl, (hf id rfl).trans h1⟩⟩

theorem Own.app {H : AHeap} {t : TypeId} {x y : AVal} {vs ws : List AVal} (h : Own H t x vs) (hy : Row H t y ws) (ho : ones ws = true) {b : Nat} (hb : (vs.length + ws.length) * b ≤ 140737488355328) (hl : vs.length + ws.length < 9223372036854775808) :
    ∃ x' H', aapp t 1 b H x y = some (x', H') ∧ Own H' t x' (vs ++ ws) ∧ H.next ≤ H'.next ∧ (∀ i, i < H.next → rid x ≠ some i → H'.get i = H.get i) ∧ (∀ i, rid x' = some i → rid x = some i ∨ H.next ≤ i) := by
  have hlen := hy.len
  have hcells := hy.cells
  have hno : ¬ (ones ws = false ∨ (1 : Nat) = 0 ∨ ws.length ≠ ws.length * 1) := by simp [ho]
  by_cases hn : ws.length = 0
  · have hw : ws = [] := List.length_eq_zero_iff.mp hn
    subst hw
    refine ⟨x, H, ?_, by simpa using h, Nat.le_refl _, fun _ _ _ => rfl, fun i hi => .inl hi⟩
    obtain ⟨id, ⟨rfl, h1, rfl⟩ | ⟨rfl, h1⟩⟩ := h
    · simp [aapp, hlen, hcells, ho]
    · simp [aapp, hlen, hcells, ho]
  · obtain ⟨id, ⟨rfl, h1, rfl⟩ | ⟨rfl, h1⟩⟩ := h
    · refine ⟨.sl H.next 0 (0 + ws.length) none, H.push (.cells t (([].drop 0).take (0 * 1) ++ ws)), ?_, ⟨H.next, .inr ⟨by simp, by simp [AHeap.get_push]⟩⟩, by simp [AHeap.push], fun i hi _ => by rw [AHeap.get_push, if_neg (by omega)], fun i hi => .inr ?_⟩
      · simp only [aapp, hlen, hcells, if_neg hno, if_neg hn, h1]
        rw [if_pos ⟨by simp, by simpa using hb, by simpa using hl, trivial⟩, if_neg (by omega)]
      · simp only [rid, Option.some.injEq] at hi; omega
    · refine ⟨.sl H.next 0 (vs.length + ws.length) none, (H.del id).push (.cells t ((vs.drop 0).take (vs.length * 1) ++ ws)), ?_, ⟨H.next, .inr ⟨by simp [AHeap.del], by simp [AHeap.get_push, AHeap.del]⟩⟩, by simp [AHeap.push, AHeap.del], fun i hi hne => ?_, fun i hi => .inr ?_⟩
      · simp only [aapp, hlen, hcells, if_neg hno, if_neg hn, h1]
        rw [if_pos ⟨by simp, by simpa using hb, by simpa using hl, trivial⟩, if_neg (by simp; omega), if_pos (by simp)]
      · have h1' : (H.del id).next = H.next := rfl
        rw [AHeap.get_push, h1', if_neg (by omega), AHeap.get_del, if_neg (fun e => hne (by simp [rid, e]))]
      · simp only [rid, Option.some.injEq] at hi; omega

theorem Row.upto' {H : AHeap} {t : TypeId} {x : AVal} {vs : List AVal} (h : Row H t x vs) {i : Nat} (hi : i ≤ vs.length) :
    ∃ x', (∀ (T : Env) (o : AOpnd), T.val o = some (.int .i64 (i : Int)) → aslc 1 T x none (some o) none = some x') ∧ Row H t x' (vs.take i) ∧ (∀ id, rid x' = some id → rid x = some id) := by
  obtain ⟨x', h1, h2, h3⟩ := h.upto (T := [(0, .int .i64 (i : Int))]) (o := .t 0) (k := .i64) rfl hi
  refine ⟨x', fun T o ho => ?_, h2, h3⟩
  rw [← h1]
  have hb : ∀ d n, abound T d n (some o) = abound [(0, .int .i64 (i : Int))] d n (some (.t 0)) := fun d n => by simp only [abound, ho]; rfl
  have hn : ∀ d n, abound T d n none = abound [(0, .int .i64 (i : Int))] d n none := fun _ _ => rfl
  unfold aslc
  simp only [hb, hn]
theorem Row.from' {H : AHeap} {t : TypeId} {x : AVal} {vs : List AVal} (h : Row H t x vs) {i : Nat} (hi : i ≤ vs.length) :
    ∃ x', (∀ (T : Env) (o : AOpnd), T.val o = some (.int .i64 (i : Int)) → aslc 1 T x (some o) none none = some x') ∧ Row H t x' (vs.drop i) ∧ (∀ id, rid x' = some id → rid x = some id) := by
  obtain ⟨x', h1, h2, h3⟩ := h.from (T := [(0, .int .i64 (i : Int))]) (o := .t 0) (k := .i64) rfl hi
  refine ⟨x', fun T o ho => ?_, h2, h3⟩
  rw [← h1]
  have hb : ∀ d n, abound T d n (some o) = abound [(0, .int .i64 (i : Int))] d n (some (.t 0)) := fun d n => by simp only [abound, ho]; rfl
  have hn : ∀ d n, abound T d n none = abound [(0, .int .i64 (i : Int))] d n none := fun _ _ => rfl
  unfold aslc
  simp only [hb, hn]
theorem Row.ltn {H : AHeap} {t : TypeId} {x : AVal} {vs : List AVal} (h : Row H t x vs) {id : Nat} (hid : rid x = some id) : id < H.next := by
  cases x with
  | sl id' off n c =>
    simp only [rid, Option.some.injEq] at hid
    subst hid
    have := h.cells
    simp only [sliceCells] at this
    split at this
    · rename_i hb; exact AHeap.get_lt hb
    · cases this
  | _ => simp [rid] at hid
end Go.Am
