import Derived.Test.YtakbdcikjpmmiaaW7
import Derived.Sort.Walk0
set_option linter.unusedVariables false
set_option linter.unusedSimpArgs false
namespace Go.Am.Rn
open Go.Proofs

theorem less_iff (x y : List UInt8) : Op.bytesLess x y = true ↔ x < y := by rw [bytesLess_eq]; simp
def pairOf (a : Rec) : ByteArray × Int := (a.nm, a.pid)

/-- The two registries hold the same. -/
structure Same (A : List Rec) (L : List (ByteArray × Int)) : Prop where
  perm : (A.map pairOf).Perm L
  sorted : L.Pairwise fun a b => a.1.toList < b.1.toList
  nms : (A.map (·.nm)).Nodup
  pds : (A.map (·.pid)).Nodup
  good : ∀ a ∈ A, badName a.nm = false ∧ 1 ≤ a.pid

theorem look1_none {s : ByteArray} : ∀ {A : List Rec} {i : Nat}, look1 s A i = none ↔ ∀ a ∈ A, ¬ s = a.nm
  | [], i => by simp [look1]
  | a :: r, i => by
    simp only [look1]
    by_cases h : s = a.nm
    · rw [if_pos (beq_ba.mpr h)]; simp [h]
    · rw [if_neg (fun e => h (beq_ba.mp e)), look1_none]; simp [h]
theorem look2_none {s : Int} : ∀ {A : List Rec} {i : Nat}, look2 s A i = none ↔ ∀ a ∈ A, ¬ s = a.pid
  | [], i => by simp [look2]
  | a :: r, i => by
    simp only [look2]
    by_cases h : s = a.pid
    · simp [h]
    · rw [if_neg (by simpa using h), look2_none]; simp [h]

theorem Same.mem {A : List Rec} {L : List (ByteArray × Int)} (h : Same A L) (p : ByteArray × Int) : p ∈ L ↔ ∃ a ∈ A, pairOf a = p := by
  rw [← h.perm.mem_iff, List.mem_map]
theorem Same.any1 {A : List Rec} {L : List (ByteArray × Int)} (h : Same A L) (s : ByteArray) : (L.any fun p => p.1.toList == s.toList) = (look1 s A 0).isSome := by
  cases hl : look1 s A 0 with
  | none =>
    rw [look1_none] at hl
    rw [Option.isSome_none, List.any_eq_false]
    intro p hp
    obtain ⟨a, ha, rfl⟩ := (h.mem p).mp hp
    simp only [beq_iff_eq]
    exact fun e => hl a ha (toList_inj e).symm
  | some q =>
    obtain ⟨_, h2, h3⟩ := look1_lt (by rw [hl] : look1 s A 0 = some (q.1, q.2))
    rw [Option.isSome_some, List.any_eq_true]
    exact ⟨pairOf q.2, (h.mem _).mpr ⟨q.2, List.mem_of_getElem? h2, rfl⟩, by rw [beq_ba.mp h3]; simp [pairOf]⟩
theorem Same.any2 {A : List Rec} {L : List (ByteArray × Int)} (h : Same A L) (s : Int) : (L.any fun p => p.2 == s) = (look2 s A 0).isSome := by
  cases hl : look2 s A 0 with
  | none =>
    rw [look2_none] at hl
    rw [Option.isSome_none, List.any_eq_false]
    intro p hp
    obtain ⟨a, ha, rfl⟩ := (h.mem p).mp hp
    simp only [beq_iff_eq]
    exact fun e => hl a ha e.symm
  | some q =>
    obtain ⟨_, h2, h3⟩ := look2_lt (by rw [hl] : look2 s A 0 = some (q.1, q.2))
    rw [Option.isSome_some, List.any_eq_true]
    exact ⟨pairOf q.2, (h.mem _).mpr ⟨q.2, List.mem_of_getElem? h2, rfl⟩, by rw [h3]; simp [pairOf]⟩

theorem Same.uniq1 {A : List Rec} {L : List (ByteArray × Int)} (h : Same A L) {p q : ByteArray × Int} (hp : p ∈ L) (hq : q ∈ L) (e : p.1 = q.1) : p = q := by
  obtain ⟨a, ha, rfl⟩ := (h.mem p).mp hp
  obtain ⟨b, hb, rfl⟩ := (h.mem q).mp hq
  obtain ⟨i, hi⟩ := List.mem_iff_getElem?.mp ha
  obtain ⟨j, hj⟩ := List.mem_iff_getElem?.mp hb
  have h1 := look1_at h.nms (i := 0) hi
  have h2 := look1_at h.nms (i := 0) hj
  have e' : a.nm = b.nm := e
  rw [e', h2] at h1
  simp only [Option.some.injEq, Prod.mk.injEq] at h1
  rw [h1.2]
theorem Same.uniq2 {A : List Rec} {L : List (ByteArray × Int)} (h : Same A L) {p q : ByteArray × Int} (hp : p ∈ L) (hq : q ∈ L) (e : p.2 = q.2) : p = q := by
  obtain ⟨a, ha, rfl⟩ := (h.mem p).mp hp
  obtain ⟨b, hb, rfl⟩ := (h.mem q).mp hq
  obtain ⟨i, hi⟩ := List.mem_iff_getElem?.mp ha
  obtain ⟨j, hj⟩ := List.mem_iff_getElem?.mp hb
  have h1 := look2_at h.pds (i := 0) hi
  have h2 := look2_at h.pds (i := 0) hj
  have e' : a.pid = b.pid := e
  rw [e', h2] at h1
  simp only [Option.some.injEq, Prod.mk.injEq] at h1
  rw [h1.2]

theorem Same.whose {A : List Rec} {L : List (ByteArray × Int)} (h : Same A L) (s : ByteArray) : nwhose A s = whose L s := by
  have ha := h.any1 s
  unfold nwhose Go.Am.Rn.whose
  cases hf : L.find? (fun p => p.1.toList == s.toList) with
  | none =>
    have : (L.any fun p => p.1.toList == s.toList) = false := by
      rw [List.any_eq_false]; intro p hp; simpa using List.find?_eq_none.mp hf p hp
    rw [this] at ha
    cases hl : look1 s A 0 with
    | none => rfl
    | some q => rw [hl] at ha; cases ha
  | some q =>
    have hq := List.mem_of_find?_eq_some hf
    have hqs : q.1 = s := toList_inj (by simpa using List.find?_some hf)
    obtain ⟨a, haA, rfl⟩ := (h.mem q).mp hq
    obtain ⟨i, hi⟩ := List.mem_iff_getElem?.mp haA
    have h1 := look1_at h.nms (i := 0) hi
    have e : a.nm = s := hqs
    rw [e] at h1
    rw [h1]; rfl
theorem Same.ofp {A : List Rec} {L : List (ByteArray × Int)} (h : Same A L) (s : Int) : nof A s = ofp L s := by
  have ha := h.any2 s
  unfold nof Go.Am.Rn.ofp
  cases hf : L.find? (fun p => p.2 == s) with
  | none =>
    have : (L.any fun p => p.2 == s) = false := by
      rw [List.any_eq_false]; intro p hp; simpa using List.find?_eq_none.mp hf p hp
    rw [this] at ha
    cases hl : look2 s A 0 with
    | none => rfl
    | some q => rw [hl] at ha; cases ha
  | some q =>
    have hq := List.mem_of_find?_eq_some hf
    have hqs : q.2 = s := by simpa using List.find?_some hf
    obtain ⟨a, haA, rfl⟩ := (h.mem q).mp hq
    obtain ⟨i, hi⟩ := List.mem_iff_getElem?.mp haA
    have h1 := look2_at h.pds (i := 0) hi
    have e : a.pid = s := hqs
    rw [e] at h1
    rw [h1]; rfl

theorem perm_erase_at {α : Type} {l : List α} {i : Nat} {a : α} (h : l[i]? = some a) : l.Perm (a :: l.eraseIdx i) := by
  induction l generalizing i with
  | nil => simp at h
  | cons b r ih =>
    cases i with
    | zero => simp at h; subst h; exact List.Perm.refl _
    | succ i =>
      simp at h
      exact ((ih h).cons b).trans (List.Perm.swap _ _ _)

/-- One gone from both. -/
theorem Same.gone {A : List Rec} {L : List (ByteArray × Int)} (h : Same A L) {i j : Nat} {a : Rec} (hi : A[i]? = some a) (hj : L[j]? = some (pairOf a)) : Same (A.eraseIdx i) (L.eraseIdx j) := by
  refine ⟨?_, h.sorted.sublist (List.eraseIdx_sublist _ _), ?_, ?_, fun x hx => h.good x (List.mem_of_mem_eraseIdx hx)⟩
  · have p1 := (perm_erase_at hi).map pairOf
    have p2 := perm_erase_at hj
    exact (p1.symm.trans (h.perm.trans p2)).cons_inv
  · exact h.nms.sublist ((List.eraseIdx_sublist _ _).map _)
  · exact h.pds.sublist ((List.eraseIdx_sublist _ _).map _)

theorem place_take (s : ByteArray) : ∀ L : List (ByteArray × Int), ∀ p ∈ L.take (place s L), p.1.toList < s.toList
  | [], p, h => by simp at h
  | q :: r, p, h => by
    simp only [place] at h
    split at h
    · rename_i hq
      simp only [List.take_succ_cons, List.mem_cons] at h
      rcases h with rfl | h
      · exact (less_iff _ _).mp hq
      · exact place_take s r p h
    · simp at h
theorem place_drop (s : ByteArray) : ∀ L : List (ByteArray × Int), (L.Pairwise fun a b => a.1.toList < b.1.toList) → (∀ p ∈ L, p.1 ≠ s) → ∀ p ∈ L.drop (place s L), s.toList < p.1.toList
  | [], _, _, p, h => by simp at h
  | q :: r, hs, hn, p, h => by
    simp only [place] at h
    split at h
    · exact place_drop s r (List.pairwise_cons.mp hs).2 (fun p hp => hn p (List.mem_cons_of_mem _ hp)) p (by simpa using h)
    · rename_i hq
      simp only [List.drop_zero] at h
      have hlt : s.toList < q.1.toList := by
        have h1 : ¬ q.1.toList < s.toList := fun e => hq ((less_iff _ _).mpr e)
        have h2 : q.1.toList ≠ s.toList := fun e => hn q List.mem_cons_self (toList_inj e)
        exact Std.lt_of_le_of_ne (Std.not_lt.mp h1) (Ne.symm h2)
      rcases List.mem_cons.mp h with rfl | h
      · exact hlt
      · exact List.lt_trans hlt ((List.pairwise_cons.mp hs).1 p h)

/-- One more in both. -/
theorem Same.more {A : List Rec} {L : List (ByteArray × Int)} (h : Same A L) {s : ByteArray} {p : Int} {c1 c2 : Nat} (h0 : badName s = false) (h1 : look1 s A 0 = none) (h2 : look2 p A 0 = none) (h3 : 1 ≤ p) : Same (A ++ [⟨s, p, c1, c2⟩]) (insertAt L (place s L) (s, p)) := by
  rw [look1_none] at h1
  rw [look2_none] at h2
  have hn : ∀ q ∈ L, q.1 ≠ s := fun q hq e => by
    obtain ⟨a, ha, rfl⟩ := (h.mem q).mp hq
    exact h1 a ha e.symm
  refine ⟨?_, ?_, ?_, ?_, fun a ha => ?_⟩
  · rw [List.map_append]
    refine ((h.perm.append_right _).trans ?_)
    have : L ++ [(s, p)] = L.take (place s L) ++ (L.drop (place s L) ++ [(s, p)]) := by rw [← List.append_assoc, List.take_append_drop]
    show (L ++ [(s, p)]).Perm _
    rw [this, insertAt, List.append_assoc]
    exact List.Perm.append_left _ List.perm_append_comm
  · rw [insertAt, List.append_assoc, List.pairwise_append]
    refine ⟨h.sorted.sublist (List.take_sublist _ _), ?_, ?_⟩
    · rw [List.singleton_append, List.pairwise_cons]
      exact ⟨fun q hq => place_drop s L h.sorted hn q hq, h.sorted.sublist (List.drop_sublist _ _)⟩
    · intro a ha b hb
      rw [List.singleton_append] at hb
      rcases List.mem_cons.mp hb with rfl | hb
      · exact place_take s L a ha
      · exact List.lt_trans (place_take s L a ha) (place_drop s L h.sorted hn b hb)
  · rw [List.map_append, List.nodup_append]
    refine ⟨h.nms, by simp, fun x hx y hy => ?_⟩
    obtain ⟨a, ha, rfl⟩ := List.mem_map.mp hx
    simp at hy; subst hy
    exact fun e => h1 a ha e.symm
  · rw [List.map_append, List.nodup_append]
    refine ⟨h.pds, by simp, fun x hx y hy => ?_⟩
    obtain ⟨a, ha, rfl⟩ := List.mem_map.mp hx
    simp at hy; subst hy
    exact fun e => h2 a ha e.symm
  · rcases List.mem_append.mp ha with ha | ha
    · exact h.good a ha
    · rw [List.mem_singleton] at ha; subst ha; exact ⟨h0, h3⟩

theorem Same.find1 {A : List Rec} {L : List (ByteArray × Int)} (h : Same A L) (s : ByteArray) : (look1 s A 0 = none ∧ L.findIdx? (fun p => p.1.toList == s.toList) = none) ∨
    ∃ i a j, look1 s A 0 = some (i, a) ∧ L.findIdx? (fun p => p.1.toList == s.toList) = some j ∧ A[i]? = some a ∧ L[j]? = some (pairOf a) := by
  have ha := h.any1 s
  cases hf : L.findIdx? (fun p => p.1.toList == s.toList) with
  | none =>
    left
    rw [List.findIdx?_eq_none_iff] at hf
    have : (L.any fun p => p.1.toList == s.toList) = false := by
      rw [List.any_eq_false]; intro p hp; rw [hf p hp]; simp
    rw [this] at ha
    cases hl : look1 s A 0 with
    | none => exact ⟨rfl, rfl⟩
    | some q => rw [hl] at ha; cases ha
  | some j =>
    right
    obtain ⟨hj, hb, _⟩ := List.findIdx?_eq_some_iff_getElem.mp hf
    have hm : L[j] ∈ L := List.getElem_mem hj
    obtain ⟨a, haA, he⟩ := (h.mem L[j]).mp hm
    obtain ⟨i, hi⟩ := List.mem_iff_getElem?.mp haA
    have h1 := look1_at h.nms (i := 0) hi
    have e : a.nm = s := by
      rw [← he] at hb
      exact toList_inj (by simpa [pairOf] using hb)
    rw [e, Nat.zero_add] at h1
    exact ⟨i, a, j, h1, rfl, hi, by rw [List.getElem?_eq_getElem hj, he]⟩
theorem Same.find2 {A : List Rec} {L : List (ByteArray × Int)} (h : Same A L) (s : Int) : (look2 s A 0 = none ∧ L.findIdx? (fun p => p.2 == s) = none) ∨
    ∃ i a j, look2 s A 0 = some (i, a) ∧ L.findIdx? (fun p => p.2 == s) = some j ∧ A[i]? = some a ∧ L[j]? = some (pairOf a) := by
  have ha := h.any2 s
  cases hf : L.findIdx? (fun p => p.2 == s) with
  | none =>
    left
    rw [List.findIdx?_eq_none_iff] at hf
    have : (L.any fun p => p.2 == s) = false := by
      rw [List.any_eq_false]; intro p hp; rw [hf p hp]; simp
    rw [this] at ha
    cases hl : look2 s A 0 with
    | none => exact ⟨rfl, rfl⟩
    | some q => rw [hl] at ha; cases ha
  | some j =>
    right
    obtain ⟨hj, hb, _⟩ := List.findIdx?_eq_some_iff_getElem.mp hf
    have hm : L[j] ∈ L := List.getElem_mem hj
    obtain ⟨a, haA, he⟩ := (h.mem L[j]).mp hm
    obtain ⟨i, hi⟩ := List.mem_iff_getElem?.mp haA
    have h1 := look2_at h.pds (i := 0) hi
    have e : a.pid = s := by
      rw [← he] at hb
      simpa [pairOf] using hb
    rw [e, Nat.zero_add] at h1
    exact ⟨i, a, j, h1, rfl, hi, by rw [List.getElem?_eq_getElem hj, he]⟩
end Go.Am.Rn
