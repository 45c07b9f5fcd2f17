/- Parts: B33, B34, B35, B36, B37, B40, B42. -/
import Derived.Test.YtcmaphhbecjbjaaGreatDoorBP
import Derived.Test.YtcmaphhbecjbjaaGreatDoorB8
import Derived.Test.YtcmaphhbecjbjaaGreatDoorBM
import Derived.Test.YtcmaphhbecjbjaaGreatDoorBN
set_option linter.unusedVariables false
set_option linter.unusedSimpArgs false
set_option maxRecDepth 20000
/- The document's look at a term: what it asks, of a right one. -/
namespace Go.Am.Rl
open Go.Proofs

mutual
/-- All words. -/
def words : TM → Nat
  | .mk k _ _ _ _ l => own k l.length + wordsL l
def wordsL : List TM → Nat
  | [] => 0
  | t :: r => words t + wordsL r
end
mutual
/-- So deep at most. -/
def deep : TM → Nat → Prop
  | .mk _ _ _ _ _ l, d => 1 ≤ d ∧ deeps l (d - 1)
def deeps : List TM → Nat → Prop
  | [], _ => True
  | t :: r, d => deep t d ∧ deeps r d
end
mutual
/-- All as their kinds must be. -/
def fine : TM → Prop
  | .mk k n f s nl l => TM.pl (.mk k n f s nl l) ∧ fines l
def fines : List TM → Prop
  | [] => True
  | t :: r => fine t ∧ fines r
end
theorem words_eq (t : TM) : words t = own t.k t.l.length + wordsL t.l := by cases t; rfl
theorem deep_eq (t : TM) (d : Nat) : deep t d ↔ 1 ≤ d ∧ deeps t.l (d - 1) := by cases t; rfl
theorem fine_eq (t : TM) : fine t ↔ TM.pl t ∧ fines t.l := by cases t; rfl
theorem wordsL_app : ∀ a b : List TM, wordsL (a ++ b) = wordsL a + wordsL b
  | [], b => by simp [wordsL]
  | t :: r, b => by simp only [List.cons_append, wordsL, wordsL_app r b]; omega
theorem wordsL_take {l : List TM} {i : Nat} {x : TM} (h : l[i]? = some x) : wordsL (l.take (i + 1)) = wordsL (l.take i) + words x := by
  rw [List.take_add_one, h, wordsL_app]; simp [wordsL]
theorem wordsL_le {l : List TM} {i : Nat} : wordsL (l.take i) ≤ wordsL l := by
  have := wordsL_app (l.take i) (l.drop i)
  rw [List.take_append_drop] at this
  omega
theorem words_le {l : List TM} {x : TM} {i : Nat} (h : l[i]? = some x) : wordsL (l.take i) + words x ≤ wordsL l := by
  rw [← wordsL_take h]; exact wordsL_le
theorem deeps_iff {d : Nat} : ∀ {l : List TM}, deeps l d ↔ ∀ x ∈ l, deep x d
  | [] => by simp [deeps]
  | t :: r => by simp [deeps, deeps_iff (l := r)]
theorem fines_iff : ∀ {l : List TM}, fines l ↔ ∀ x ∈ l, fine x
  | [] => by simp [fines]
  | t :: r => by simp [fines, fines_iff (l := r)]
theorem all_take {l : List TM} {p : TM → Prop} {i : Nat} {x : TM} (h : ∀ y ∈ l.take i, p y) (hx : l[i]? = some x) (hp : p x) : ∀ y ∈ l.take (i + 1), p y := by
  intro y hy
  rw [List.take_add_one, hx] at hy
  rcases List.mem_append.mp hy with hy | hy
  · exact h y hy
  · simp at hy; subst hy; exact hp
theorem sub_nat {a b : Nat} (ha : a ≤ 65536) (h : b ≤ a) : abin .sub (i64 (a : Nat)) (i64 (b : Nat)) = some (i64 ((a - b : Nat) : Int)) := by
  have hw : IntKind.i64.wrap ((a : Int) - (b : Int)) = ((a - b : Nat) : Int) := by rw [show (a : Int) - (b : Int) = ((a - b : Nat) : Int) by omega]; exact wrap64 (n := a - b) (by omega)
  simp only [abin, hw]; rfl
theorem add_nat {a b : Nat} (h : a + b < 9223372036854775808) : abin .add (i64 (a : Nat)) (i64 (b : Nat)) = some (i64 ((a + b : Nat) : Int)) := by
  have hw : IntKind.i64.wrap ((a : Int) + (b : Int)) = ((a + b : Nat) : Int) := by rw [show (a : Int) + (b : Int) = ((a + b : Nat) : Int) by omega]; exact wrap64 (n := a + b) h
  simp only [abin, hw]; rfl
section
variable {t : TM} {H : AHeap} {id : Nat} {k k' : List AItem} {Q : Env → AHeap → Prop}
theorem loop52x {d m : Nat} (ok : t.ok) (hm : m ≤ 65536) (hd : d ≤ 200) (hd1 : 1 ≤ d) (ih : ∀ x ∈ t.l, x.ok → ∀ (d m : Nat) H, d ≤ 200 → m ≤ 65536 → DCall Tryz.prog 62 [x.agg, i64 d, i64 m] H fun r H' => (∃ n : Int, r = i64 n ∧ (n < 0 ∨ (n = words x ∧ words x ≤ m ∧ deep x d))) ∧ H' = H)
    (g : H.get id = some (.cells 25 (TM.c5 t))) (hk : aexitTo 0 k = some k') (hend : words t ≤ m → deep t d → DR Tryz.prog (kof k62) 44 k' [(7, i64 (words t : Nat))] H Q) (hret : ∀ T, T.get 6 = some (i64 (-1)) → Q T H) :
    ∀ (e i : Nat), i + e = t.l.length → own t.k t.l.length + wordsL (t.l.take i) ≤ m → (∀ x ∈ t.l.take i, deep x (d - 1)) → DR Tryz.prog (kof k62) 44 (.code l62_0 :: .inLoop l62_0 :: k) [(1, i64 d), (2, i64 m), (3, .ptr id 0), (7, i64 ((own t.k t.l.length + wordsL (t.l.take i) : Nat) : Int)), (8, i64 (i : Nat))] H Q := by
  intro e
  have l4 := load_cell g (o := 4) (v := t.row) rfl
  have hl := TM.lenT ok H
  induction e with
  | zero =>
    intro i hi hc hdd
    have hcmp : abin .lss (i64 (i : Nat)) (i64 (t.l.length : Nat)) = some (.bool false) := by simp [abin]; omega
    refine DR.go rfl ?_
    simp -dsimp only [SZ, EZ, astep, aun, AVal.cells, seval, l4, hl, hcmp]
    refine DR.ne rfl rfl ?_
    refine DR.nm rfl ?_
    refine DR.exit hk ?_
    rw [List.take_of_length_le (by omega)] at hc hdd ⊢
    have he := hend (by rw [words_eq]; exact hc) ((deep_eq t d).mpr ⟨hd1, deeps_iff.mpr hdd⟩)
    rw [words_eq] at he
    exact DR.only [7] he
  | succ e ih2 =>
    intro i hi hc hdd
    have hcmp : abin .lss (i64 (i : Nat)) (i64 (t.l.length : Nat)) = some (.bool true) := by simp [abin]; omega
    have hlt : i < t.l.length := by omega
    have hx : t.l[i]? = some t.l[i] := List.getElem?_eq_getElem hlt
    have hxo := TM.ok_at ok hx
    have ra := TM.row_at ok hx H
    have la := TM.load t.l[i] (TM.flat (t.l.drop (i + 1))) H
    have hle := TM.len_le ok
    have hadd : abin .add (i64 (i : Nat)) (i64 1) = some (i64 ((i + 1 : Nat) : Int)) := add_nat (b := 1) (by omega)
    have hs1 : abin .sub (i64 d) (i64 1) = some (i64 ((d - 1 : Nat) : Int)) := sub_nat (b := 1) (by omega) hd1
    have hs2 := sub_nat hm hc
    refine DR.go rfl ?_
    simp -dsimp only [SZ, EZ, astep, aun, AVal.cells, seval, l4, hl, hcmp]
    refine DR.ye rfl rfl ?_
    refine DR.go rfl ?_
    simp -dsimp only [SZ, EZ, astep, aun, AVal.cells, seval, l4, ra, la, hs1, hs2]
    refine (ih _ (List.getElem_mem hlt) hxo (d - 1) _ H (by omega) (by omega)).mono ?_
    rintro r H' ⟨⟨n, rfl, hn⟩, he⟩
    obtain rfl := he.symm
    simp -dsimp only [SZ, EZ, astep, aun, AVal.cells, seval]
    rcases hn with hn | ⟨rfl, hw, hdp⟩
    · have hb : abin .lss (i64 n) (i64 0) = some (.bool true) := by simp [abin, hn]
      refine DR.go rfl ?_
      simp -dsimp only [SZ, EZ, astep, aun, AVal.cells, seval, hb]
      refine DR.ye rfl rfl ?_
      refine DR.go rfl ?_
      simp -dsimp only [SZ, EZ, astep, aun, AVal.cells, seval]
      refine DR.nm rfl ?_
      exact DR.ret (hret _ rfl)
    · have hb : abin .lss (i64 (words t.l[i] : Nat)) (i64 0) = some (.bool false) := by simp [abin]
      have ha2 := add_nat (a := own t.k t.l.length + wordsL (t.l.take i)) (b := words t.l[i]) (by omega)
      refine DR.go rfl ?_
      simp -dsimp only [SZ, EZ, astep, aun, AVal.cells, seval, hb]
      refine DR.ne rfl rfl ?_
      refine DR.go rfl ?_
      simp -dsimp only [SZ, EZ, astep, aun, AVal.cells, seval, ha2]
      refine DR.go rfl ?_
      simp -dsimp only [SZ, EZ, astep, aun, AVal.cells, seval, hadd]
      refine DR.nm rfl ?_
      refine DR.inLoop ?_
      have he2 : own t.k t.l.length + wordsL (t.l.take i) + words t.l[i] = own t.k t.l.length + wordsL (t.l.take (i + 1)) := by rw [wordsL_take hx]; omega
      rw [he2]
      exact ih2 (i + 1) (by omega) (by omega) (all_take hdd hx hdp)
end
theorem g52x : ∀ t : TM, t.ok → ∀ (d m : Nat) (H : AHeap), d ≤ 200 → m ≤ 65536 → DCall Tryz.prog 62 [t.agg, i64 d, i64 m] H fun r H' => (∃ n : Int, r = i64 n ∧ (n < 0 ∨ (n = words t ∧ words t ≤ m ∧ deep t d))) ∧ H' = H := by
  refine TM.all fun t ih ok d m H hd hm => ?_
  refine DCall.ints (TM.pures2 t d m) ?_ H
  obtain ⟨H1, hH1, g1, n1, f1⟩ := psh AHeap.empty (.cells 25 (TM.c5 t))
  have la := load_all (n := 5) g1 rfl
  refine DCall.of_body (fn := Tryz.f62) (by kernel_rfl) c62 (by kernel_rfl) (by simp [f62]) ?_
  unfold f62
  simp only []
  refine DR.go rfl ?_
  simp -dsimp only [SZ, EZ, astep, aun, AVal.cells, seval, ← hH1]
  by_cases hd1 : d < 1
  · have hb1 : abin .lss (i64 d) (i64 1) = some (.bool true) := by simp [abin]; omega
    refine DR.go rfl ?_
    simp -dsimp only [SZ, EZ, astep, aun, AVal.cells, seval, hb1]
    refine DR.ye rfl rfl ?_
    refine DR.go rfl ?_
    simp -dsimp only [SZ, EZ, astep, aun, AVal.cells, seval]
    refine DR.nm rfl ?_
    exact DR.ret ⟨_, by simp [aresult, ares, Env.get] <;> rfl, ⟨_, rfl, .inl (by decide)⟩⟩
  have hb1 : abin .lss (i64 d) (i64 1) = some (.bool false) := by simp [abin]; omega
  refine DR.go rfl ?_
  simp -dsimp only [SZ, EZ, astep, aun, AVal.cells, seval, hb1, la]
  refine (g85x t ok H1).mono ?_
  rintro r H' ⟨rfl, he⟩
  obtain rfl := he.symm
  by_cases ho : own t.k t.l.length ≤ m
  · have hb2 : abin .gtr (i64 (own t.k t.l.length : Nat)) (i64 m) = some (.bool false) := by simp [abin]; omega
    simp -dsimp only [SZ, EZ, astep, aun, AVal.cells, seval, hb2]
    refine DR.ne rfl rfl ?_
    refine DR.go rfl ?_
    simp -dsimp only [SZ, EZ, astep, aun, AVal.cells, seval, la]
    refine (g85x t ok H1).mono ?_
    rintro r H' ⟨rfl, he⟩
    obtain rfl := he.symm
    simp -dsimp only [SZ, EZ, astep, aun, AVal.cells, seval]
    refine DR.go rfl ?_
    simp -dsimp only [SZ, EZ, astep, aun, AVal.cells, seval]
    refine DR.nm rfl ?_
    refine DR.loop ?_
    have hend : words t ≤ m → deep t d → DR Tryz.prog (kof k62) 44 [.code (.seq (.region false r62_11 [6]) .ret)] [(7, i64 (words t : Nat))] H1 fun T' H' => ∃ r, aresult H' T' [.tmp 6] = some r ∧ ∃ n : Int, r = i64 n ∧ (n < 0 ∨ (n = words t ∧ words t ≤ m ∧ deep t d)) := by
      intro hw hdp
      refine DR.go rfl ?_
      simp -dsimp only [SZ, EZ, astep, aun, AVal.cells, seval]
      refine DR.nm rfl ?_
      exact DR.ret ⟨_, by simp [aresult, ares, Env.get] <;> rfl, ⟨_, rfl, .inr ⟨rfl, hw, hdp⟩⟩⟩
    have := loop52x (k := [.inBlock 0, .code (.seq (.region false r62_11 [6]) .ret)]) ok hm hd (by omega) ih g1 rfl hend (fun T hT => ⟨_, by simp [aresult, ares, hT] <;> rfl, _, rfl, .inl (by decide)⟩) t.l.length 0 (by omega) (by simpa [wordsL] using ho) (by simp)
    simp only [List.take_zero, wordsL, Nat.add_zero] at this
    exact this
  · have hb2 : abin .gtr (i64 (own t.k t.l.length : Nat)) (i64 m) = some (.bool true) := by simp [abin]; omega
    simp -dsimp only [SZ, EZ, astep, aun, AVal.cells, seval, hb2]
    refine DR.ye rfl rfl ?_
    refine DR.go rfl ?_
    simp -dsimp only [SZ, EZ, astep, aun, AVal.cells, seval]
    refine DR.nm rfl ?_
    exact DR.ret ⟨_, by simp [aresult, ares, Env.get] <;> rfl, ⟨_, rfl, .inl (by decide)⟩⟩
end Go.Am.Rl

/- A right term: the document's Check and Right, the law's right. -/
namespace Go.Am.Rl
open Go.Proofs

/-- A right term. -/
def right (t : TM) : Prop := words t ≤ 65536 ∧ deep t 200 ∧ fine t
section
variable {t : TM} {H : AHeap} {id : Nat} {k k' : List AItem} {Q : Env → AHeap → Prop}
theorem loop53x (ok : t.ok) (ih : ∀ x ∈ t.l, x.ok → ∀ H, DCall Tryz.prog 63 [x.agg] H fun r H' => (∃ b, r = .bool b ∧ (b = true → fine x)) ∧ H' = H)
    (g : H.get id = some (.cells 25 (TM.c5 t))) (hk : aexitTo 0 k = some k') (hend : (∀ x ∈ t.l, fine x) → DR Tryz.prog (kof k63) 21 k' [] H Q) (hret : ∀ T, T.get 2 = some (.bool false) → Q T H) :
    ∀ (e i : Nat), i + e = t.l.length → (∀ x ∈ t.l.take i, fine x) → DR Tryz.prog (kof k63) 21 (.code l63_0 :: .inLoop l63_0 :: k) [(1, .ptr id 0), (3, .int .i64 (i : Nat))] H Q := by
  intro e
  have l4 := load_cell g (o := 4) (v := t.row) rfl
  have hl := TM.lenT ok H
  induction e with
  | zero =>
    intro i hi hall
    have hc : abin .lss (.int .i64 (i : Nat)) (.int .i64 (t.l.length : Nat)) = some (.bool false) := by simp [abin]; omega
    refine DR.go rfl ?_
    simp -dsimp only [SZ, EZ, astep, aun, AVal.cells, seval, l4, hl, hc]
    refine DR.ne rfl rfl ?_
    refine DR.nm rfl ?_
    refine DR.exit hk ?_
    exact DR.only [] (hend (by rw [List.take_of_length_le (by omega)] at hall; exact hall))
  | succ e ih2 =>
    intro i hi hall
    have hc : abin .lss (.int .i64 (i : Nat)) (.int .i64 (t.l.length : Nat)) = some (.bool true) := by simp [abin]; omega
    have hlt : i < t.l.length := by omega
    have hx : t.l[i]? = some t.l[i] := List.getElem?_eq_getElem hlt
    have hxo := TM.ok_at ok hx
    have ra := TM.row_at ok hx H
    have la := TM.load t.l[i] (TM.flat (t.l.drop (i + 1))) H
    have hle := TM.len_le ok
    have hw : IntKind.i64.wrap ((i : Int) + 1) = ((i + 1 : Nat) : Int) := wrap64 (n := i + 1) (by omega)
    refine DR.go rfl ?_
    simp -dsimp only [SZ, EZ, astep, aun, AVal.cells, seval, l4, hl, hc]
    refine DR.ye rfl rfl ?_
    refine DR.go rfl ?_
    simp -dsimp only [SZ, EZ, astep, aun, AVal.cells, seval, l4, ra, la, abin]
    refine (ih _ (List.getElem_mem hlt) hxo H).mono ?_
    rintro r H' ⟨⟨b, rfl, hb⟩, he⟩
    obtain rfl := he.symm
    simp -dsimp only [SZ, EZ, astep, aun, AVal.cells, seval]
    cases b with
    | false =>
      refine DR.ye rfl rfl ?_
      refine DR.go rfl ?_
      simp -dsimp only [SZ, EZ, astep, aun, AVal.cells, seval]
      refine DR.nm rfl ?_
      exact DR.ret (hret _ rfl)
    | true =>
      refine DR.ne rfl rfl ?_
      refine DR.go rfl ?_
      simp -dsimp only [SZ, EZ, astep, aun, AVal.cells, seval, hw, abin]
      refine DR.nm rfl ?_
      refine DR.inLoop ?_
      exact ih2 (i + 1) (by omega) (all_take hall hx (hb rfl))
end
theorem g53x : ∀ t : TM, t.ok → ∀ H : AHeap, DCall Tryz.prog 63 [t.agg] H fun r H' => (∃ b, r = .bool b ∧ (b = true → fine t)) ∧ H' = H := by
  refine TM.all fun t ih ok H => ?_
  refine DCall.bools (TM.pures1 t) ?_ H
  obtain ⟨H1, hH1, g1, n1, f1⟩ := psh AHeap.empty (.cells 25 (TM.c5 t))
  have la := load_all (n := 5) g1 rfl
  refine DCall.of_body (fn := Tryz.f63) (by kernel_rfl) c63 (by kernel_rfl) (by simp [f63]) ?_
  unfold f63
  simp only []
  refine DR.go rfl ?_
  simp -dsimp only [SZ, EZ, astep, aun, AVal.cells, seval, ← hH1]
  refine DR.go rfl ?_
  simp -dsimp only [SZ, EZ, astep, aun, AVal.cells, seval, la]
  refine (g86x t ok H1).mono ?_
  rintro r H' ⟨⟨b, rfl, hb⟩, rfl⟩
  simp -dsimp only [SZ, EZ, astep, aun, AVal.cells, seval]
  cases b with
  | false =>
    refine DR.ye rfl rfl ?_
    refine DR.go rfl ?_
    simp -dsimp only [SZ, EZ, astep, aun, AVal.cells, seval]
    refine DR.nm rfl ?_
    exact DR.ret ⟨_, by simp [aresult, ares, Env.get] <;> rfl, ⟨_, rfl, fun h => by cases h⟩⟩
  | true =>
    refine DR.ne rfl rfl ?_
    refine DR.go rfl ?_
    simp -dsimp only [SZ, EZ, astep, aun, AVal.cells, seval]
    refine DR.nm rfl ?_
    refine DR.loop ?_
    refine loop53x ok ih g1 rfl (fun hall => ?_) (fun T hT => ⟨_, by simp [aresult, ares, hT] <;> rfl, _, rfl, fun h => by cases h⟩) t.l.length 0 (by omega) (by simp)
    refine DR.go rfl ?_
    simp -dsimp only [SZ, EZ, astep, aun, AVal.cells, seval]
    refine DR.nm rfl ?_
    exact DR.ret ⟨_, by simp [aresult, ares, Env.get] <;> rfl, ⟨_, rfl, fun _ => (fine_eq t).mpr ⟨hb rfl, fines_iff.mpr hall⟩⟩⟩
theorem g26x (t : TM) (ok : t.ok) (H : AHeap) : DCall Tryz.prog 31 [t.agg] H fun r H' => (∃ n, r = .int .i64 n ∧ (n = 0 → right t)) ∧ H' = H := by
  refine DCall.ints (TM.pures1 t) ?_ H
  obtain ⟨H1, hH1, g1, n1, f1⟩ := psh AHeap.empty (.cells 25 (TM.c5 t))
  have la := load_all (n := 5) g1 rfl
  refine DCall.of_body (fn := Tryz.f31) (by kernel_rfl) c31 (by kernel_rfl) (by simp [f31]) ?_
  unfold f31
  simp only []
  refine DR.go rfl ?_
  simp -dsimp only [SZ, EZ, astep, aun, AVal.cells, seval, ← hH1]
  refine DR.go rfl ?_
  simp -dsimp only [SZ, EZ, astep, aun, AVal.cells, seval, la]
  refine (g52x t ok 200 65536 H1 (by omega) (by omega)).mono ?_
  rintro r H' ⟨⟨n, rfl, hn⟩, he⟩
  obtain rfl := he.symm
  rcases hn with hn | ⟨rfl, hw, hdp⟩
  · have hb : abin .lss (i64 n) (i64 0) = some (.bool true) := by simp [abin, hn]
    simp -dsimp only [SZ, EZ, astep, aun, AVal.cells, seval, hb]
    refine DR.ye rfl rfl ?_
    refine DR.go rfl ?_
    simp -dsimp only [SZ, EZ, astep, aun, AVal.cells, seval]
    refine DR.nm rfl ?_
    exact DR.ret ⟨_, by simp [aresult, ares, Env.get] <;> rfl, ⟨_, rfl, fun h => by cases h⟩⟩
  · have hb : abin .lss (i64 (words t : Nat)) (i64 0) = some (.bool false) := by simp [abin]
    simp -dsimp only [SZ, EZ, astep, aun, AVal.cells, seval, hb]
    refine DR.ne rfl rfl ?_
    refine DR.go rfl ?_
    simp -dsimp only [SZ, EZ, astep, aun, AVal.cells, seval, la]
    refine (g53x t ok H1).mono ?_
    rintro r H2 ⟨⟨b, rfl, hb⟩, he⟩
    obtain rfl := he.symm
    simp -dsimp only [SZ, EZ, astep, aun, AVal.cells, seval]
    cases b with
    | false =>
      refine DR.ye rfl rfl ?_
      refine DR.go rfl ?_
      simp -dsimp only [SZ, EZ, astep, aun, AVal.cells, seval]
      refine DR.nm rfl ?_
      exact DR.ret ⟨_, by simp [aresult, ares, Env.get] <;> rfl, ⟨_, rfl, fun h => by cases h⟩⟩
    | true =>
      refine DR.ne rfl rfl ?_
      refine DR.go rfl ?_
      simp -dsimp only [SZ, EZ, astep, aun, AVal.cells, seval]
      refine DR.nm rfl ?_
      exact DR.ret ⟨_, by simp [aresult, ares, Env.get] <;> rfl, ⟨_, rfl, fun _ => ⟨hw, hdp, hb rfl⟩⟩⟩
theorem g18x (t : TM) (ok : t.ok) (H : AHeap) : DCall Tryz.prog 20 [t.agg] H fun r H' => (∃ b, r = .bool b ∧ (b = true → right t)) ∧ H' = H := by
  refine DCall.bools (TM.pures1 t) ?_ H
  obtain ⟨H1, hH1, g1, n1, f1⟩ := psh AHeap.empty (.cells 25 (TM.c5 t))
  have la := load_all (n := 5) g1 rfl
  refine DCall.of_body (fn := Tryz.f20) (by kernel_rfl) c20 (by kernel_rfl) (by simp [f20]) ?_
  unfold f20
  simp only []
  refine DR.go rfl ?_
  simp -dsimp only [SZ, EZ, astep, aun, AVal.cells, seval, ← hH1]
  refine DR.go rfl ?_
  simp -dsimp only [SZ, EZ, astep, aun, AVal.cells, seval, la]
  refine (g26x t ok H1).mono ?_
  rintro r H' ⟨⟨n, rfl, hn⟩, rfl⟩
  simp -dsimp only [SZ, EZ, astep, aun, AVal.cells, seval, abin]
  refine DR.nm rfl ?_
  exact DR.ret ⟨_, by simp [aresult, ares, Env.get] <;> rfl, ⟨_, rfl, fun h => hn (by simpa using h)⟩⟩
section
variable {u : TM} {H : AHeap} {k k' : List AItem} {Q : Env → AHeap → Prop}
theorem loop8x (ok : u.ok) (hk : aexitTo 0 k = some k') (hend : (∀ x ∈ u.l, right x) → DR Tryz.prog (kof k7) 25 k' [] H Q) (hret : ∀ T, T.get 2 = some (.bool false) → Q T H) :
    ∀ (e i : Nat), i + e = u.l.length → (∀ x ∈ u.l.take i, right x) → DR Tryz.prog (kof k7) 25 (.code l7_0 :: .inLoop l7_0 :: k) [(0, u.row), (3, .int .i64 (i : Nat))] H Q := by
  intro e
  have hl := TM.lenT ok H
  induction e with
  | zero =>
    intro i hi hall
    have hc : abin .lss (.int .i64 (i : Nat)) (.int .i64 (u.l.length : Nat)) = some (.bool false) := by simp [abin]; omega
    refine DR.go rfl ?_
    simp -dsimp only [SZ, EZ, astep, aun, AVal.cells, seval, hl, hc]
    refine DR.ne rfl rfl ?_
    refine DR.nm rfl ?_
    refine DR.exit hk ?_
    exact DR.only [] (hend (by rw [List.take_of_length_le (by omega)] at hall; exact hall))
  | succ e ih2 =>
    intro i hi hall
    have hc : abin .lss (.int .i64 (i : Nat)) (.int .i64 (u.l.length : Nat)) = some (.bool true) := by simp [abin]; omega
    have hlt : i < u.l.length := by omega
    have hx : u.l[i]? = some u.l[i] := List.getElem?_eq_getElem hlt
    have hxo := TM.ok_at ok hx
    have ra := TM.row_at ok hx H
    have la := TM.load u.l[i] (TM.flat (u.l.drop (i + 1))) H
    have hle := TM.len_le ok
    have hw : IntKind.i64.wrap ((i : Int) + 1) = ((i + 1 : Nat) : Int) := wrap64 (n := i + 1) (by omega)
    refine DR.go rfl ?_
    simp -dsimp only [SZ, EZ, astep, aun, AVal.cells, seval, hl, hc]
    refine DR.ye rfl rfl ?_
    refine DR.go rfl ?_
    simp -dsimp only [SZ, EZ, astep, aun, AVal.cells, seval, ra, la, abin]
    refine (g18x _ hxo H).mono ?_
    rintro r H' ⟨⟨b, rfl, hb⟩, rfl⟩
    simp -dsimp only [SZ, EZ, astep, aun, AVal.cells, seval]
    cases b with
    | false =>
      refine DR.ye rfl rfl ?_
      refine DR.go rfl ?_
      simp -dsimp only [SZ, EZ, astep, aun, AVal.cells, seval]
      refine DR.nm rfl ?_
      exact DR.ret (hret _ rfl)
    | true =>
      refine DR.ne rfl rfl ?_
      refine DR.go rfl ?_
      simp -dsimp only [SZ, EZ, astep, aun, AVal.cells, seval, hw, abin]
      refine DR.nm rfl ?_
      refine DR.inLoop ?_
      refine ih2 (i + 1) (by omega) fun x hx' => ?_
      rw [List.take_add_one, hx] at hx'
      rcases List.mem_append.mp hx' with h | h
      · exact hall x h
      · simp at h; subst h; exact hb rfl
end
theorem g8x (nl : Bool) (l : List TM) (ok : (TM.of nl l).ok) : DCall Tryz.prog 7 [(TM.of nl l).row] AHeap.empty fun r H' => ∃ b, r = .bool b ∧ (b = true → ∀ x ∈ l, right x) := by
  have hl := TM.lenT ok AHeap.empty
  obtain ⟨b, hb⟩ := bcmp .gtr .i64 (((TM.of nl l).l.length : Nat) : Int) 5 rfl
  have hcl : (TM.of nl l).row.cells = [(TM.of nl l).row] := by cases nl <;> rfl
  have hz : AVal.agg [.int .i64 0, .int .i64 0, .flt .f64 0, .str ⟨#[]⟩, (TM.of nl l).row] = (TM.of nl l).agg := rfl
  refine DCall.of_body (fn := Tryz.f7) (by kernel_rfl) c7 (by kernel_rfl) (by simp [f7]) ?_
  unfold f7
  simp only []
  refine DR.go rfl ?_
  simp -dsimp only [SZ, EZ, astep, aun, AVal.cells, seval]
  cases b with
  | true =>
    refine DR.go rfl ?_
    simp -dsimp only [SZ, EZ, astep, aun, AVal.cells, seval, hl, hb]
    refine DR.ye rfl rfl ?_
    refine DR.go rfl ?_
    simp -dsimp only [SZ, EZ, astep, aun, AVal.cells, seval]
    refine DR.nm rfl ?_
    exact DR.ret ⟨_, by simp [aresult, ares, Env.get] <;> rfl, ⟨_, rfl, fun h => by cases h⟩⟩
  | false =>
    refine DR.go rfl ?_
    simp -dsimp only [SZ, EZ, astep, aun, seval, hl, hb, hcl, Env.parts, afill, LZ, aput, List.length_cons, List.length_nil, List.drop_succ_cons, List.drop_zero, List.drop_nil, List.append_nil, List.cons_append, List.nil_append, List.take_succ_cons, List.take_zero]
    rw [hz]
    refine (g17 _ ok _ _ AHeap.empty).mono ?_
    rintro r H' ⟨⟨n, rfl⟩, rfl⟩
    obtain ⟨b2, hb2⟩ := bcmp .lss .i64 n 0 rfl
    simp -dsimp only [SZ, EZ, astep, aun, AVal.cells, seval, hb2]
    cases b2 with
    | true =>
      refine DR.ye rfl rfl ?_
      refine DR.go rfl ?_
      simp -dsimp only [SZ, EZ, astep, aun, AVal.cells, seval]
      refine DR.nm rfl ?_
      exact DR.ret ⟨_, by simp [aresult, ares, Env.get] <;> rfl, ⟨_, rfl, fun h => by cases h⟩⟩
    | false =>
      refine DR.ne rfl rfl ?_
      refine DR.go rfl ?_
      simp -dsimp only [SZ, EZ, astep, aun, AVal.cells, seval]
      refine DR.nm rfl ?_
      refine DR.loop ?_
      refine loop8x ok rfl (fun hall => ?_) (fun T hT => ⟨_, by simp [aresult, ares, hT] <;> rfl, _, rfl, fun h => by cases h⟩) (TM.of nl l).l.length 0 (by omega) (by simp)
      refine DR.go rfl ?_
      simp -dsimp only [SZ, EZ, astep, aun, AVal.cells, seval]
      refine DR.nm rfl ?_
      exact DR.ret ⟨_, by simp [aresult, ares, Env.get] <;> rfl, ⟨_, rfl, fun _ => hall⟩⟩
end Go.Am.Rl

/- The program's walk over a right term: it counts its words, and finds nothing amiss. -/
namespace Go.Am.Rl
open Go.Proofs

/-- A look's block, of so many words, with nothing amiss. -/
def LX (H : AHeap) (id w : Nat) : Prop := ∃ b, H.get id = some (.cells 63 [.int .i64 (w : Nat), .int .i64 b, .bool false, .bool false])
section
variable {t : TM} {id : Nat} {k k' : List AItem} {Q : Env → AHeap → Prop}
theorem loop164x {d w : Nat} (ok : t.ok) (hd : d ≤ 200) (hw : w + wordsL t.l ≤ 65536) (hf : ∀ x ∈ t.l, fine x) (hdp : ∀ x ∈ t.l, deep x (200 - d))
    (ih : ∀ x ∈ t.l, x.ok → fine x → ∀ (d w : Nat) (H : AHeap), 1 ≤ d → d ≤ 201 → deep x (201 - d) → w + words x ≤ 65536 → LX H id w → DCall Tryz.prog 61 [.ptr id 0, x.agg, .int .i64 (d : Nat)] H fun r H' => LX H' id (w + words x) ∧ But H H' id) (hk : aexitTo 0 k = some k')
    {H0 : AHeap} (hend : ∀ H, LX H id (w + wordsL t.l) → But H0 H id → DR Tryz.prog (kof k61) 68 k' [] H Q) :
    ∀ (e i : Nat) (H : AHeap), i + e = t.l.length → LX H id (w + wordsL (t.l.take i)) → But H0 H id → DR Tryz.prog (kof k61) 68 (.code l61_0 :: .inLoop l61_0 :: k) [(0, .ptr id 0), (2, .int .i64 (d : Nat)), (52, t.row), (53, .int .i64 (t.l.length : Nat)), (54, .int .i64 (i : Nat))] H Q := by
  intro e
  induction e with
  | zero =>
    intro i H hi hH hB
    have hc : abin .lss (.int .i64 (i : Nat)) (.int .i64 (t.l.length : Nat)) = some (.bool false) := by simp [abin]; omega
    refine DR.go rfl ?_
    simp -dsimp only [SZ, EZ, astep, aun, AVal.cells, seval, hc]
    refine DR.ne rfl rfl ?_
    refine DR.nm rfl ?_
    refine DR.exit hk ?_
    rw [List.take_of_length_le (by omega)] at hH
    exact DR.only [] (hend H hH hB)
  | succ e ih2 =>
    intro i H hi hH hB
    have hc : abin .lss (.int .i64 (i : Nat)) (.int .i64 (t.l.length : Nat)) = some (.bool true) := by simp [abin]; omega
    have hlt : i < t.l.length := by omega
    have hx : t.l[i]? = some t.l[i] := List.getElem?_eq_getElem hlt
    have hm : t.l[i] ∈ t.l := List.getElem_mem hlt
    have hxo := TM.ok_at ok hx
    have ra := TM.row_at ok hx H
    have la := TM.load t.l[i] (TM.flat (t.l.drop (i + 1))) H
    have hle := TM.len_le ok
    have hwl := words_le hx
    have hadd : abin .add (.int .i64 (i : Nat)) (.int .i64 1) = some (.int .i64 ((i + 1 : Nat) : Int)) := add_nat (b := 1) (by omega)
    have hadd2 : abin .add (.int .i64 (d : Nat)) (.int .i64 1) = some (.int .i64 ((d + 1 : Nat) : Int)) := add_nat (b := 1) (by omega)
    obtain ⟨H1, hH1, g1, n1, f1⟩ := psh H (.cells 25 [.int .i64 0, .int .i64 0, .flt .f64 0, .str ⟨#[]⟩, .nils])
    have st : astore H1 5 (.ptr H.next 0) (AVal.agg (TM.c5 t.l[i])) = some (H1.set H.next (.cells 25 (TM.c5 t.l[i]))) := store_all (n := 5) (new := TM.c5 t.l[i]) g1 rfl (TM.ones5 _) rfl
    obtain ⟨H2, hH2, g2, n2, f2⟩ := upd g1 (.cells 25 (TM.c5 t.l[i]))
    have l2 := load_all (n := 5) g2 rfl
    have hk2 : LX H2 id (w + wordsL (t.l.take i)) := by
      obtain ⟨b, h⟩ := hH
      have hlt := AHeap.get_lt h
      exact ⟨b, by rw [f2 id (by omega), f1 id hlt]; exact h⟩
    have hB2 : But H H2 id := ⟨by rw [n2, n1]; omega, fun j hj _ => by rw [f2 j (by omega), f1 j hj]⟩
    refine DR.go rfl ?_
    simp -dsimp only [SZ, EZ, astep, aun, AVal.cells, seval, hc]
    refine DR.ye rfl rfl ?_
    refine DR.go rfl ?_
    simp -dsimp only [SZ, EZ, astep, aun, AVal.cells, seval, ra, la, ← hH1, st, ← hH2]
    refine DR.go rfl ?_
    simp -dsimp only [SZ, EZ, astep, aun, AVal.cells, seval, l2, hadd2]
    refine (ih _ hm hxo (hf _ hm) (d + 1) _ H2 (by omega) (by omega) (by rw [show 201 - (d + 1) = 200 - d by omega]; exact hdp _ hm) (by omega) hk2).mono ?_
    rintro r H3 ⟨hk3, hb3⟩
    simp -dsimp only [SZ, EZ, astep, aun, AVal.cells, seval]
    have hk4 : LX H3 id (w + wordsL (t.l.take (i + 1))) := by rw [wordsL_take hx, ← Nat.add_assoc]; exact hk3
    obtain ⟨b, h3⟩ := hk3
    have l3 := load_cell h3 (o := 3) (v := .bool false) rfl
    refine DR.go rfl ?_
    simp -dsimp only [SZ, EZ, astep, aun, AVal.cells, seval, l3]
    refine DR.ne rfl rfl ?_
    refine DR.go rfl ?_
    simp -dsimp only [SZ, EZ, astep, aun, AVal.cells, seval, hadd]
    refine DR.nm rfl ?_
    refine DR.inLoop ?_
    exact ih2 (i + 1) H3 (by omega) hk4 ((hB.trans hB2).trans hb3)
end
theorem g164x : ∀ t : TM, t.ok → fine t → ∀ (id : Nat) (d w : Nat) (H : AHeap), 1 ≤ d → d ≤ 201 → deep t (201 - d) → w + words t ≤ 65536 → LX H id w → DCall Tryz.prog 61 [.ptr id 0, t.agg, .int .i64 (d : Nat)] H fun r H' => LX H' id (w + words t) ∧ But H H' id := by
  refine TM.all fun t ih ok hf id d w H hd1 hd2 hdp hw hH => ?_
  obtain ⟨b, h0⟩ := hH
  obtain ⟨hp, hfs⟩ := (fine_eq t).mp hf
  obtain ⟨hd0, hds⟩ := (deep_eq t _).mp hdp
  have hfs := fines_iff.mp hfs
  have hds := deeps_iff.mp hds
  have hwd := words_eq t
  have hlt := AHeap.get_lt h0
  obtain ⟨H1, hH1, g1, n1, f1⟩ := psh H (.cells 25 (TM.c5 t))
  have h1 := (f1 id hlt).trans h0
  have l1 := load_cell h1 (o := 1) (v := .int .i64 b) rfl
  obtain ⟨m, hm⟩ : ∃ m, aext 6 [.int .i64 b, .int .i64 (d : Nat)] = some (.int .i64 m) := ⟨_, rfl⟩
  have st1 : astore H1 1 (.ptr id 1) (.int .i64 m) = some (H1.set id (.cells 63 [.int .i64 (w : Nat), .int .i64 m, .bool false, .bool false])) := astore_one h1 (o := 1) (by simp) rfl
  obtain ⟨H2, hH2, g2, n2, f2⟩ := upd h1 (.cells 63 [.int .i64 (w : Nat), .int .i64 m, .bool false, .bool false])
  have b2 : But H H2 id := ⟨by rw [n2, n1]; omega, fun j hj hn => by rw [f2 j hn, f1 j hj]⟩
  have t2 : H2.get H.next = some (.cells 25 (TM.c5 t)) := (f2 H.next (by omega)).trans g1
  have lt2 := load_all (n := 5) t2 rfl
  refine DCall.of_body (fn := Tryz.f61) (by kernel_rfl) c61 (by kernel_rfl) (by simp [f61]) ?_
  unfold f61
  simp only []
  refine DR.go rfl ?_
  simp -dsimp only [SZ, EZ, astep, aun, AVal.cells, seval, ← hH1]
  refine DR.go rfl ?_
  simp -dsimp only [SZ, EZ, astep, aun, AVal.cells, seval, l1, hm, st1, ← hH2]
  have hb1 : abin .gtr (.int .i64 (d : Nat)) (.int .i64 200) = some (.bool false) := by simp [abin]; omega
  refine DR.go rfl ?_
  simp -dsimp only [SZ, EZ, astep, aun, AVal.cells, seval, hb1]
  have l0 := load_cell g2 (o := 0) (v := .int .i64 (w : Nat)) rfl
  refine DR.ne rfl rfl ?_
  refine DR.nm rfl ?_
  refine DR.draw (by kernel_rfl) d61_4 ?_
  simp -dsimp only [m61_4, SZ, EZ, astep, aun, AVal.cells, seval, DS_nil, DS_cons, seesAll, staysAll, abit, List.getD_cons_zero, List.getD_cons_succ, AOp.quiet, AOp.reads, true_and, and_true, decide_true, decide_false, and_self, l0, lt2]
  refine (g175x t ok H2).mono ?_
  rintro r H' ⟨rfl, he⟩
  obtain rfl := he.symm
  have ha2 : abin .add (.int .i64 (w : Nat)) (.int .i64 (own t.k t.l.length : Nat)) = some (.int .i64 ((w + own t.k t.l.length : Nat) : Int)) := add_nat (by omega)
  have st4 : astore H2 1 (.ptr id 0) (.int .i64 ((w + own t.k t.l.length : Nat) : Int)) = some (H2.set id (.cells 63 [.int .i64 ((w + own t.k t.l.length : Nat) : Int), .int .i64 m, .bool false, .bool false])) := astore_one g2 (o := 0) (by simp) rfl
  obtain ⟨H4, hH4, g4, n4, f4⟩ := upd g2 (.cells 63 [.int .i64 ((w + own t.k t.l.length : Nat) : Int), .int .i64 m, .bool false, .bool false])
  have b4 : But H H4 id := b2.trans ⟨by rw [n4]; omega, fun j hj hn => f4 j hn⟩
  have t4 : H4.get H.next = some (.cells 25 (TM.c5 t)) := (f4 H.next (by omega)).trans t2
  have lt4 := load_all (n := 5) t4 rfl
  have l40 := load_cell g4 (o := 0) (v := .int .i64 ((w + own t.k t.l.length : Nat) : Int)) rfl
  have l42 := load_cell g4 (o := 2) (v := .bool false) rfl
  have hb5 : abin .gtr (.int .i64 ((w + own t.k t.l.length : Nat) : Int)) (.int .i64 65536) = some (.bool false) := by simp [abin]; omega
  simp -dsimp only [SZ, EZ, astep, aun, AVal.cells, seval, DS_nil, DS_cons, seesAll, staysAll, abit, List.getD_cons_zero, List.getD_cons_succ, AOp.quiet, AOp.reads, true_and, and_true, decide_true, decide_false, and_self, l0, lt2, ha2, st4, ← hH4]
  refine DR.go rfl ?_
  simp -dsimp only [SZ, EZ, astep, aun, AVal.cells, seval, l40, hb5]
  refine DR.ne rfl rfl ?_
  refine DR.go rfl ?_
  simp -dsimp only [SZ, EZ, astep, aun, AVal.cells, seval, l42, lt4]
  refine (g176x t ok hp H4).mono ?_
  rintro r H' ⟨rfl, he⟩
  obtain rfl := he.symm
  have st7 : astore H4 1 (.ptr id 2) (.bool false) = some (H4.set id (.cells 63 [.int .i64 ((w + own t.k t.l.length : Nat) : Int), .int .i64 m, .bool false, .bool false])) := astore_one g4 (o := 2) (by simp) rfl
  obtain ⟨H7, hH7, g7, n7, f7⟩ := upd g4 (.cells 63 [.int .i64 ((w + own t.k t.l.length : Nat) : Int), .int .i64 m, .bool false, .bool false])
  have b7 : But H H7 id := b4.trans ⟨by rw [n7]; omega, fun j hj hn => f7 j hn⟩
  have l74 := load_cell ((f7 H.next (by omega)).trans t4) (o := 4) (v := t.row) rfl
  have hl := TM.lenT ok H7
  simp -dsimp only [SZ, EZ, astep, aun, AVal.cells, seval, st7, Bool.not_true, ← hH7]
  refine DR.go rfl ?_
  simp -dsimp only [SZ, EZ, astep, aun, AVal.cells, seval, l74, hl]
  refine DR.nm rfl ?_
  refine DR.loop ?_
  refine loop164x (w := w + own t.k t.l.length) ok (by omega) (by omega) hfs (by rw [show 201 - d - 1 = 200 - d by omega] at hds; exact hds) (fun x hx hxo hfx d w H h1 h2 h3 h4 h5 => ih x hx hxo hfx id d w H h1 h2 h3 h4 h5) rfl (H0 := H) (fun H8 h8 b8 => ?_) t.l.length 0 H7 (by omega) ⟨_, g7⟩ b7
  refine DR.nm rfl ?_
  exact DR.done ⟨.tup [], rfl, by rw [hwd, ← Nat.add_assoc]; exact h8, b8⟩
end Go.Am.Rl

/- The program's Check of a right term: OK. -/
namespace Go.Am.Rl
open Go.Proofs

theorem g135x (t : TM) (ok : t.ok) (hr : right t) (H : AHeap) : DCall Tryz.prog 30 [t.agg] H fun r H' => (∃ b, r = .tup [.agg [.int .i64 (words t : Nat), .int .i64 b, .bool false, .bool false], .int .i64 0]) ∧ H' = H := by
  refine DCall.closed (sz := szs) (TM.pures1 t) (Q := fun r H1 => ∃ b, r = .tup [.agg [.int .i64 (words t : Nat), .int .i64 b, .bool false, .bool false], .int .i64 0]) ?_ (fun r H1 ⟨b, he⟩ => ⟨5, r, by rw [he]; rfl, b, he⟩) H
  obtain ⟨hw, hd, hf⟩ := hr
  obtain ⟨H1, hH1, g1, n1, f1⟩ := psh AHeap.empty (.cells 25 (TM.c5 t))
  obtain ⟨H2, hH2, g2, n2, f2⟩ := psh H1 (.cells 63 [.int .i64 0, .int .i64 0, .bool false, .bool false])
  obtain ⟨H3, hH3, g3, n3, f3⟩ := psh H2 (.cells 63 [.int .i64 0, .int .i64 0, .bool false, .bool false])
  have t1 : H3.get AHeap.empty.next = some (.cells 25 (TM.c5 t)) := (f3 _ (by rw [n2, n1]; omega)).trans ((f2 _ (by rw [n1]; omega)).trans g1)
  have t2 : H3.get H1.next = some (.cells 63 [.int .i64 0, .int .i64 0, .bool false, .bool false]) := (f3 _ (by rw [n2]; omega)).trans g2
  have la := load_all (n := 5) t1 rfl
  refine DCall.of_body (fn := Tryz.f30) (by kernel_rfl) c30 (by kernel_rfl) (by simp [f30]) ?_
  unfold f30
  simp only []
  refine DR.go rfl ?_
  simp -dsimp only [SZ, EZ, astep, aun, AVal.cells, seval, ← hH1, ← hH2]
  refine DR.go rfl ?_
  simp -dsimp only [SZ, EZ, astep, aun, AVal.cells, seval, ← hH3]
  refine DR.go rfl ?_
  simp -dsimp only [SZ, EZ, astep, aun, AVal.cells, seval, la]
  refine (g164x t ok hf H2.next 1 0 H3 (by omega) (by omega) hd (by omega) ⟨_, g3⟩).mono ?_
  rintro r H4 ⟨⟨b, h4⟩, b4⟩
  rw [Nat.zero_add] at h4
  have t4 : H4.get H1.next = some (.cells 63 [.int .i64 0, .int .i64 0, .bool false, .bool false]) := (b4.2 _ (by rw [n3, n2]; omega) (by rw [n2]; omega)).trans t2
  have l3 := load_cell h4 (o := 3) (v := .bool false) rfl
  have l2 := load_cell h4 (o := 2) (v := .bool false) rfl
  have l0 := load_all (n := 4) h4 rfl
  have fin : ∀ X : List AVal, (∃ a b c d, X = [.int .i64 a, .int .i64 b, .bool c, .bool d]) → astore H4 4 (.ptr H1.next 0) (.agg X) = some (H4.set H1.next (.cells 63 X)) ∧ aload (H4.set H1.next (.cells 63 X)) (some 4) (.ptr H1.next 0) = some (.agg X) := by
    rintro X ⟨a, b, c, d, rfl⟩
    exact ⟨store_all (n := 4) (new := [.int .i64 a, .int .i64 b, .bool c, .bool d]) t4 rfl rfl rfl, load_all (n := 4) (by rw [AHeap.get_set, if_pos rfl, if_pos (AHeap.get_lt t4)]) rfl⟩
  simp -dsimp only [SZ, EZ, astep, aun, AVal.cells, seval]
  refine DR.go rfl ?_
  simp -dsimp only [SZ, EZ, astep, aun, AVal.cells, seval, l3]
  refine DR.ne rfl rfl ?_
  refine DR.go rfl ?_
  simp -dsimp only [SZ, EZ, astep, aun, AVal.cells, seval, l2]
  obtain ⟨s1, s2⟩ := fin _ ⟨(words t : Nat), b, false, false, rfl⟩
  refine DR.ne rfl rfl ?_
  refine DR.go rfl ?_
  simp -dsimp only [SZ, EZ, astep, aun, AVal.cells, seval, l0, s1]
  refine DR.nm rfl ?_
  exact DR.ret ⟨.tup [.agg [.int .i64 (words t : Nat), .int .i64 b, .bool false, .bool false], .int .i64 0], by simp [aresult, ares, Env.get, s2], _, rfl⟩
theorem g87x (t : TM) (ok : t.ok) (hr : right t) (H : AHeap) : DCall Tryz.prog 17 [t.agg] H fun r H' => r = .int .i64 0 ∧ H' = H := by
  have h : DCall Tryz.prog 17 [t.agg] AHeap.empty fun r H' => ∃ n, r = .int .i64 n ∧ n = 0 := by
    obtain ⟨H1, hH1, g1, n1, f1⟩ := psh AHeap.empty (.cells 25 (TM.c5 t))
    have la := load_all (n := 5) g1 rfl
    refine DCall.of_body (fn := Tryz.f17) (by kernel_rfl) c17 (by kernel_rfl) (by simp [f17]) ?_
    unfold f17
    simp only []
    refine DR.go rfl ?_
    simp -dsimp only [SZ, EZ, astep, aun, AVal.cells, seval, ← hH1]
    refine DR.go rfl ?_
    simp -dsimp only [SZ, EZ, astep, aun, AVal.cells, seval, la]
    refine (g135x t ok hr H1).mono ?_
    rintro r H' ⟨⟨b, rfl⟩, he⟩
    obtain rfl := he.symm
    obtain ⟨H2, hH2, g2, n2, f2⟩ := psh H1 (.cells 63 [.int .i64 0, .int .i64 0, .bool false, .bool false])
    have s1 : astore H2 4 (.ptr H1.next 0) (.agg [.int .i64 (words t : Nat), .int .i64 b, .bool false, .bool false]) = some (H2.set H1.next (.cells 63 [.int .i64 (words t : Nat), .int .i64 b, .bool false, .bool false])) := store_all (n := 4) (new := [.int .i64 (words t : Nat), .int .i64 b, .bool false, .bool false]) g2 rfl rfl rfl
    simp -dsimp only [SZ, EZ, astep, aun, AVal.cells, seval, ← hH2, s1]
    refine DR.go rfl ?_
    simp -dsimp only [SZ, EZ, astep, aun, AVal.cells, seval]
    refine DR.nm rfl ?_
    exact DR.ret ⟨_, by simp [aresult, ares, Env.get] <;> rfl, ⟨_, rfl, rfl⟩⟩
  exact (DCall.ints (TM.pures1 t) h H).mono fun r H' ⟨⟨n, h1, h3⟩, h2⟩ => ⟨by rw [h1, h3], h2⟩
end Go.Am.Rl

/- What lists are of: a right list's elements are right, and so is the list of them. -/
namespace Go.Am.Rl
open Go.Proofs

theorem deep_mono : ∀ t : TM, t.ok → ∀ d e : Nat, d ≤ e → deep t d → deep t e := by
  refine TM.all fun t ih ok d e h hd => ?_
  obtain ⟨h1, h2⟩ := (deep_eq t d).mp hd
  exact (deep_eq t e).mpr ⟨by omega, deeps_iff.mpr fun x hx => ih x hx (TM.oks_mem (TM.ok_oks ok) x hx) _ _ (by omega) (deeps_iff.mp h2 x hx)⟩
theorem right_of {t : TM} (ok : t.ok) (h : right t) {x : TM} (hx : x ∈ t.l) : right x := by
  obtain ⟨hw, hd, hf⟩ := h
  obtain ⟨i, hi⟩ := List.getElem?_of_mem hx
  have h1 := words_le hi
  have h2 := words_eq t
  exact ⟨by omega, deep_mono x (TM.oks_mem (TM.ok_oks ok) x hx) _ _ (by omega) (deeps_iff.mp ((deep_eq t _).mp hd).2 x hx), fines_iff.mp ((fine_eq t).mp hf).2 x hx⟩
/-- A list. -/
abbrev lst8 (nl : Bool) (l : List TM) : TM := .mk 8 0 0 ⟨#[]⟩ nl l
theorem lst8_ok {nl : Bool} {l : List TM} (h : TM.oks l) (hl : l.length ≤ 2 ^ 41) (hn : nl = true → l = []) : (lst8 nl l).ok := ⟨by kernel_rfl, by kernel_rfl, by kernel_rfl, Nat.zero_le _, hl, hn, h⟩
theorem right_lst {t : TM} (hk : t.k = 8) (h : right t) (nl : Bool) : right (lst8 nl t.l) := by
  obtain ⟨hw, hd, hf⟩ := h
  refine ⟨?_, (deep_eq _ _).mpr ((deep_eq t _).mp hd), (fine_eq _).mpr ⟨.inr (.inr (.inr (.inr (.inr ⟨.inr rfl, rfl, rfl, rfl⟩)))), ((fine_eq t).mp hf).2⟩⟩
  rw [words_eq] at hw ⊢
  rw [hk] at hw
  exact hw
theorem right_atom {t : TM} (h : right t) (hk : t.k = 3) : t.n = 0 ∧ t.f = 0 ∧ t.l = [] := by
  rcases ((fine_eq t).mp h.2.2).1 with ⟨h, _⟩ | ⟨h, _⟩ | ⟨_, _, h1, h2, h3⟩ | ⟨h | h, _⟩ | ⟨h, _⟩ | ⟨h | h, _⟩ <;> first | omega | exact ⟨h1, h2, h3⟩
end Go.Am.Rl

/- Atoms; texts compared. -/
namespace Go.Am.Rl
open Go.Proofs

/-- An atom. -/
abbrev atm (s : ByteArray) : TM := .mk 3 0 0 s true []
abbrev sTrue : ByteArray := ⟨#[116, 114, 117, 101]⟩
abbrev sFalse : ByteArray := ⟨#[102, 97, 108, 115, 101]⟩
theorem truth_t : xclosed tab cmp90 100000 100 szs 39 [.bool true] = some (atm sTrue).agg := by kernel_rfl
theorem truth_f : xclosed tab cmp90 100000 100 szs 39 [.bool false] = some (atm sFalse).agg := by kernel_rfl
theorem g30 (b : Bool) (H : AHeap) : DCall Tryz.prog 39 [.bool b] H fun r H' => r = (atm (if b then sTrue else sFalse)).agg ∧ H' = H := by
  cases b with
  | true => exact (xclosed_sound mixed tab_ok cmp90_ok truth_t H).dcall
  | false => exact (xclosed_sound mixed tab_ok cmp90_ok truth_f H).dcall
theorem atm_ok {s : ByteArray} (h : s.size ≤ reachBytes) : (atm s).ok := ⟨by kernel_rfl, by kernel_rfl, by kernel_rfl, h, Nat.zero_le _, fun _ => rfl, trivial⟩
theorem neq_strs {s u : ByteArray} : abin .neq (.str s) (.str u) = some (.bool (decide (s ≠ u))) := by
  by_cases h : s = u
  · subst h; rw [neq_str]; simp
  · have : abin .neq (.str s) (.str u) = some (.bool (!(s.toList == u.toList))) := rfl
    rw [this]
    have hb : (s.toList == u.toList) = false := by
      cases hb : (s.toList == u.toList) with
      | false => rfl
      | true => exact absurd (bytes_eq (by rw [beq_toListBytes]; exact hb)) h
    rw [hb]; simp [h]
theorem eql_strs {s u : ByteArray} : abin .eql (.str s) (.str u) = some (.bool (decide (s = u))) := by
  have : abin .eql (.str s) (.str u) = some (.bool (s.toList == u.toList)) := rfl
  rw [this]
  by_cases h : s = u
  · subst h; simp
  · have hb : (s.toList == u.toList) = false := by
      cases hb : (s.toList == u.toList) with
      | false => rfl
      | true => exact absurd (bytes_eq (by rw [beq_toListBytes]; exact hb)) h
    rw [hb]; simp [h]
end Go.Am.Rl

/- An operator's sign: what it tells, or the error that it gives up with. -/
namespace Go.Am.Rl
open Go.Proofs

/-- An operator's call: its arguments. -/
abbrev opC (u : TM) : List AVal := [u.row, .nilf]
abbrev fnv (f : FuncId) : AVal := .fn (.func f) [] []
/-- What 'Op' tells. -/
def Oped (Y : TM → Prop) (E : Int → Prop) (r : AVal) : Prop := (∃ y : TM, y.ok ∧ Y y ∧ r = .tup [(norm y).agg, .int .i64 0]) ∨ ∃ e, E e ∧ r = .tup [.agg z25, .int .i64 e]
theorem Oped.pure {Y : TM → Prop} {E : Int → Prop} {r : AVal} (h : Oped Y E r) : r.pure = true := by
  rcases h with ⟨y, _, _, rfl⟩ | ⟨e, _, rfl⟩
  · have := TM.pures1 (norm y)
    simp only [AVal.pures, AVal.pure, Bool.and_true] at this ⊢
    exact this
  · rfl
section
variable {u : TM} {f : FuncId} {Y : TM → Prop} {E : Int → Prop} {sg : ByteArray}
theorem g23 {H : AHeap} {b7 b6 cid : Nat} (h7 : H.get b7 = some (.cells 54 [fnv f])) (h6 : H.get b6 = some (.cells 51 [.ptr cid 0])) (hc : H.get cid = some (.cells 53 (opC u)))
    (hf : ∀ H cid, H.get cid = some (.cells 53 (opC u)) → DCallX Tryz.prog f [.ptr cid 0] H (Tells H Y E)) : DCallX Tryz.prog 27 [.ptr b7 0, .ptr b6 0] H (Tells H Y E) := by
  obtain ⟨H1, hH1, g1, n1, f1⟩ := psh H (.cells 25 z25)
  have hz : z25 = [.int .i64 0, .int .i64 0, .flt .f64 0, .str ⟨#[]⟩, .nils] := rfl
  have l7 := load_cell ((f1 _ (AHeap.get_lt h7)).trans h7) (o := 0) (v := fnv f) rfl
  have l6 := load_cell ((f1 _ (AHeap.get_lt h6)).trans h6) (o := 0) (v := .ptr cid 0) rfl
  have b1 : Gro H H1 := ⟨by omega, f1⟩
  refine DCallX.of_body (fn := Tryz.f27) (by kernel_rfl) c27 (by kernel_rfl) (by simp [f27]) ?_
  unfold f27
  simp only []
  refine DRX.go rfl ?_
  simp -dsimp only [XZ, SZ, EZ, astep, aun, AVal.cells, seval, ← hz, ← hH1]
  refine DRX.go rfl ?_
  simp -dsimp only [XZ, SZ, EZ, astep, aun, seval, l7, l6, List.append_nil, List.nil_append]
  refine (hf H1 cid ((f1 _ (AHeap.get_lt hc)).trans hc)).mono ?_
  rintro o H3 ⟨b3, ⟨y, oy, hy, rfl⟩ | ⟨e, he, rfl⟩⟩
  · have t3 := b3.get g1
    have s1 := store_all (n := 5) t3 (new := TM.c5 y) rfl (TM.ones5 _) rfl
    obtain ⟨H4, hH4, g4, n4, f4⟩ := upd t3 (.cells 25 (TM.c5 y))
    have l6 := load_all (n := 5) g4 rfl
    simp -dsimp only [XZ, SZ, EZ, astep, aun, AVal.cells, seval, s1, ← hH4]
    refine DRX.nm rfl ?_
    exact DRX.ret ⟨y.agg, by simp [aresult, ares, Env.get, l6], ⟨by have := b1.1; have := b3.1; omega, fun i hi => by rw [f4 i (by omega), (b1.trans b3).2 i hi]⟩, .inl ⟨y, oy, hy, rfl⟩⟩
  · exact ⟨b1.trans b3, .inr ⟨e, he, rfl⟩⟩
theorem opFill (u : TM) : afill [.nils, .nilf] [(0, 1, u.row)] = some (opC u) := by
  cases u with
  | mk k n f s nl l => cases nl <;> rfl
theorem g12b (ok : u.ok) (hlen : u.l.length = 2) (h20 : ∀ H, DCall Tryz.prog 24 [.str sg] H fun r H' => r = fnv f ∧ H' = H)
    (hf : ∀ H cid, H.get cid = some (.cells 53 (opC u)) → DCallX Tryz.prog f [.ptr cid 0] H (Tells H Y E)) (H : AHeap) : DCallX Tryz.prog 11 [.str sg, u.row] H fun o H' => ∃ v, o = .ret v ∧ Oped Y E v := by
  obtain ⟨H1, hH1, g1, n1, f1⟩ := psh H (.cells 25 z25)
  have hz : z25 = [.int .i64 0, .int .i64 0, .flt .f64 0, .str ⟨#[]⟩, .nils] := rfl
  obtain ⟨H2, hH2, g2, n2, f2⟩ := psh H1 (.cells 53 (opC u))
  obtain ⟨H3, hH3, g3, n3, f3⟩ := psh H2 (.cells 51 [.nilp])
  have s3 : astore H3 1 (.ptr H2.next 0) (.ptr H1.next 0) = some (H3.set H2.next (.cells 51 [.ptr H1.next 0])) := astore_one g3 (o := 0) (by simp) rfl
  obtain ⟨H4, hH4, g4, n4, f4⟩ := upd g3 (.cells 51 [.ptr H1.next 0])
  obtain ⟨H5, hH5, g5, n5, f5⟩ := psh H4 (.cells 54 [.nilf])
  have s5 : astore H5 1 (.ptr H4.next 0) (fnv f) = some (H5.set H4.next (.cells 54 [fnv f])) := astore_one g5 (o := 0) (by simp) rfl
  obtain ⟨H7, hH7, g7, n7, f7⟩ := upd g5 (.cells 54 [fnv f])
  have k1 : H7.get H.next = some (.cells 25 z25) := by rw [f7 _ (by omega), f5 _ (by omega), f4 _ (by omega), f3 _ (by omega), f2 _ (by omega)]; exact g1
  have k2 : H7.get H1.next = some (.cells 53 (opC u)) := by rw [f7 _ (by omega), f5 _ (by omega), f4 _ (by omega), f3 _ (by omega)]; exact g2
  have k3 : H7.get H2.next = some (.cells 51 [.ptr H1.next 0]) := by rw [f7 _ (by omega), f5 _ (by omega)]; exact g4
  have l7 := load_cell g7 (o := 0) (v := fnv f) rfl
  have hl7 := TM.lenT ok H7
  rw [hlen] at hl7
  have c0 : abin .eql (.int .i64 2) (.int .i64 1) = some (.bool false) := rfl
  have c1 : abin .lss (.int .i64 2) (.int .i64 1) = some (.bool false) := rfl
  have c2 : abin .gtr (.int .i64 2) (.int .i64 2) = some (.bool false) := rfl
  have hcell : ∀ c : List AVal, (AVal.agg c).cells = c := fun _ => rfl
  refine DCallX.of_body (fn := Tryz.f11) (by kernel_rfl) c11 (by kernel_rfl) (by simp [f11]) ?_
  unfold f11
  simp only []
  refine DRX.go rfl ?_
  simp -dsimp only [XZ, SZ, EZ, astep, aun, AVal.cells, seval, ← hz, ← hH1]
  refine DRX.go rfl ?_
  simp -dsimp only [XZ, SZ, EZ, astep, aun, AVal.cells, seval, Env.parts, opFill, hcell, ← hH2, ← hH3, s3, ← hH4]
  refine DRX.go rfl ?_
  simp -dsimp only [XZ, SZ, EZ, astep, aun, AVal.cells, seval]
  refine DCall.monoX (h20 H4) ?_
  rintro r H' ⟨rfl, he⟩
  obtain rfl := he.symm
  simp -dsimp only [XZ, SZ, EZ, astep, aun, AVal.cells, seval, ← hH5, s5, ← hH7]
  refine DRX.go rfl ?_
  simp -dsimp only [XZ, SZ, EZ, astep, aun, AVal.cells, seval, hl7, c0]
  refine DRX.ne rfl rfl ?_
  refine DRX.go rfl ?_
  simp -dsimp only [XZ, SZ, EZ, astep, aun, AVal.cells, seval, l7, anil, hl7, c1, c2]
  refine DRX.ne rfl rfl ?_
  refine DRX.go rfl ?_
  simp -dsimp only [XZ, SZ, EZ, astep, aun, AVal.cells, seval]
  refine (g22 (fun H8 b8 => g23 (b8.get g7) (b8.get k3) (b8.get k2) hf)).mono ?_
  rintro o H9 ⟨b9, ⟨y, oy, hy, rfl⟩ | ⟨e, he, rfl⟩⟩
  · have s9 := store_all (n := 5) (b9.get k1) (new := TM.c5 (norm y)) rfl (TM.ones5 _) rfl
    obtain ⟨HA, hHA, gA, nA, fA⟩ := upd (b9.get k1) (.cells 25 (TM.c5 (norm y)))
    have lA := load_all (n := 5) gA rfl
    have iy0 : ([(norm y).agg, .int .i64 0] : List AVal)[0]? = some (norm y).agg := rfl
    have iy1 : ([(norm y).agg, .int .i64 0] : List AVal)[1]? = some (.int .i64 0) := rfl
    simp -dsimp only [XZ, SZ, EZ, astep, aun, AVal.cells, seval, iy0, iy1, s9, ← hHA]
    refine DRX.nm rfl ?_
    exact DRX.ret ⟨.tup [(norm y).agg, .int .i64 0], by simp [aresult, ares, Env.get, lA], _, rfl, .inl ⟨y, oy, hy, rfl⟩⟩
  · have s9 := store_all (n := 5) (b9.get k1) (new := z25) rfl rfl rfl
    obtain ⟨HA, hHA, gA, nA, fA⟩ := upd (b9.get k1) (.cells 25 z25)
    have lA := load_all (n := 5) gA rfl
    have iy0 : ([.agg z25, .int .i64 e] : List AVal)[0]? = some (.agg z25) := rfl
    have iy1 : ([.agg z25, .int .i64 e] : List AVal)[1]? = some (.int .i64 e) := rfl
    simp -dsimp only [XZ, SZ, EZ, astep, aun, AVal.cells, seval, iy0, iy1, s9, ← hHA]
    refine DRX.nm rfl ?_
    exact DRX.ret ⟨.tup [.agg z25, .int .i64 e], by simp [aresult, ares, Env.get, lA], _, rfl, .inr ⟨e, he, rfl⟩⟩
theorem opclosed (h : DCallX Tryz.prog 11 [.str sg, u.row] AHeap.empty fun o H' => ∃ v, o = .ret v ∧ Oped Y E v) (H : AHeap) : DCall Tryz.prog 11 [.str sg, u.row] H fun r H' => Oped Y E r ∧ H' = H := by
  have hp : AVal.pures [.str sg, u.row] = true := by
    have := TM.purer (u := u)
    simp only [AVal.pures, Bool.and_true] at this ⊢
    rw [this]; rfl
  exact DCall.closed (sz := szs) hp (Q := fun r _ => Oped Y E r) (DCallX.plain (Q := fun r _ => Oped Y E r) h) (fun r H1 hr => ⟨SizeOf.sizeOf r + 1, r, freeze_pure _ _ (by omega) hr.pure, hr⟩) H
end
end Go.Am.Rl
