/- Parts: B37, B38, B39, B40, B41, B42, B43. -/
import Derived.Test.YtilfjbbfabcdlaaGreatDoorBQ
import Derived.Test.YtilfjbbfabcdlaaGreatDoorBO
import Derived.Test.YtilfjbbfabcdlaaGreatDoorFnN
set_option linter.unusedVariables false
set_option linter.unusedSimpArgs false
set_option maxRecDepth 20000
/- What lists are of: a right list's elements are right, and so is the list of them. -/
namespace Go.Am.Rl
open Go.Proofs

theorem deep_mono : ∀ t : TM, t.ok → ∀ d e : Nat, d ≤ e → deep t d → deep t e := by
  refine TM.all fun t ih ok d e h hd => ?_
  obtain ⟨h1, h2⟩ := (deep_eq t d).mp hd
  exact (deep_eq t e).mpr ⟨by omega, deeps_iff.mpr fun x hx => ih x hx (TM.oks_mem (TM.ok_oks ok) x hx) _ _ (by omega) (deeps_iff.mp h2 x hx)⟩
theorem right_of {t : TM} (ok : t.ok) (h : right t) {x : TM} (hx : x ∈ t.l) : right x := by
  obtain ⟨hw, hd, hf⟩ := h
  obtain ⟨i, hi⟩ := List.getElem?_of_mem hx
  have h1 := words_le hi
  have h2 := words_eq t
  exact ⟨by omega, deep_mono x (TM.oks_mem (TM.ok_oks ok) x hx) _ _ (by omega) (deeps_iff.mp ((deep_eq t _).mp hd).2 x hx), fines_iff.mp ((fine_eq t).mp hf).2 x hx⟩
/-- A list. -/
abbrev lst8 (nl : Bool) (l : List TM) : TM := .mk 8 0 0 ⟨#[]⟩ nl l
theorem lst8_ok {nl : Bool} {l : List TM} (h : TM.oks l) (hl : l.length ≤ 2 ^ 41) (hn : nl = true → l = []) : (lst8 nl l).ok := ⟨by kernel_rfl, by kernel_rfl, by kernel_rfl, Nat.zero_le _, hl, hn, h⟩
theorem right_lst {t : TM} (hk : t.k = 8) (h : right t) (nl : Bool) : right (lst8 nl t.l) := by
  obtain ⟨hw, hd, hf⟩ := h
  refine ⟨?_, (deep_eq _ _).mpr ((deep_eq t _).mp hd), (fine_eq _).mpr ⟨.inr (.inr (.inr (.inr (.inr ⟨.inr rfl, rfl, rfl, rfl⟩)))), ((fine_eq t).mp hf).2⟩⟩
  rw [words_eq] at hw ⊢
  rw [hk] at hw
  exact hw
theorem right_atom {t : TM} (h : right t) (hk : t.k = 3) : t.n = 0 ∧ t.f = 0 ∧ t.l = [] := by
  rcases ((fine_eq t).mp h.2.2).1 with ⟨h, _⟩ | ⟨h, _⟩ | ⟨_, _, h1, h2, h3⟩ | ⟨h | h, _⟩ | ⟨h, _⟩ | ⟨h | h, _⟩ <;> first | omega | exact ⟨h1, h2, h3⟩
end Go.Am.Rl

/- A list made of right terms. -/
namespace Go.Am.Rl
open Go.Proofs

section
variable {u : TM} {H0 : AHeap} {rid : Nat} {k k' : List AItem} {Q : Env → AHeap → Prop}
theorem loop100x (ok : u.ok) (hr : ∀ x ∈ u.l, right x) (hk : aexitTo 0 k = some k') (hend : ∀ H, H.get rid = some (.cells 25 z25) → DR Tryz.prog (kof k100) 32 k' [(0, .int .i64 8), (1, u.row), (4, .ptr rid 0)] H Q) :
    ∀ (e i : Nat) (H : AHeap), i + e = u.l.length → H.get rid = some (.cells 25 z25) → DR Tryz.prog (kof k100) 32 (.code l100_0 :: .inLoop l100_0 :: k) [(0, .int .i64 8), (1, u.row), (4, .ptr rid 0), (10, u.row), (11, .int .i64 (u.l.length : Nat)), (12, .int .i64 (i : Nat))] H Q := by
  intro e
  induction e with
  | zero =>
    intro i H hi hH
    have hc : abin .lss (.int .i64 (i : Nat)) (.int .i64 (u.l.length : Nat)) = some (.bool false) := by simp [abin]; omega
    refine DR.go rfl ?_
    simp -dsimp only [SZ, EZ, astep, aun, AVal.cells, seval, hc]
    refine DR.ne rfl rfl ?_
    refine DR.nm rfl ?_
    refine DR.exit hk ?_
    exact DR.only [0, 1, 4] (hend H hH)
  | succ e ih2 =>
    intro i H hi hH
    have hc : abin .lss (.int .i64 (i : Nat)) (.int .i64 (u.l.length : Nat)) = some (.bool true) := by simp [abin]; omega
    have hlt : i < u.l.length := by omega
    have hx : u.l[i]? = some u.l[i] := List.getElem?_eq_getElem hlt
    have hxo := TM.ok_at ok hx
    have ra := TM.row_at ok hx H
    have la := TM.load u.l[i] (TM.flat (u.l.drop (i + 1))) H
    have hle := TM.len_le ok
    have hw : IntKind.i64.wrap ((i : Int) + 1) = ((i + 1 : Nat) : Int) := wrap64 (n := i + 1) (by omega)
    obtain ⟨H1, hH1, g1, n1, f1⟩ := psh H (.cells 25 [.int .i64 0, .int .i64 0, .flt .f64 0, .str ⟨#[]⟩, .nils])
    have st : astore H1 5 (.ptr H.next 0) (AVal.agg (TM.c5 u.l[i])) = some (H1.set H.next (.cells 25 (TM.c5 u.l[i]))) := store_all (n := 5) (new := TM.c5 u.l[i]) g1 rfl (TM.ones5 _) rfl
    obtain ⟨H2, hH2, g2, n2, f2⟩ := upd g1 (.cells 25 (TM.c5 u.l[i]))
    have l2 := load_all (n := 5) g2 rfl
    have hr2 : H2.get rid = some (.cells 25 z25) := by
      have := AHeap.get_lt hH
      rw [f2 rid (by omega), f1 rid this]; exact hH
    refine DR.go rfl ?_
    simp -dsimp only [SZ, EZ, astep, aun, AVal.cells, seval, hc]
    refine DR.ye rfl rfl ?_
    refine DR.go rfl ?_
    simp -dsimp only [SZ, EZ, astep, aun, AVal.cells, seval, ra, la, ← hH1, st, ← hH2]
    refine DR.go rfl ?_
    simp -dsimp only [SZ, EZ, astep, aun, AVal.cells, seval, l2]
    refine (g87x _ hxo (hr _ (List.getElem_mem hlt)) H2).mono ?_
    rintro r H' ⟨rfl, he⟩
    obtain rfl := he.symm
    have c0 : abin .neq (.int .i64 0) (.int .i64 0) = some (.bool false) := neq_int _ _
    simp -dsimp only [SZ, EZ, astep, aun, AVal.cells, seval]
    refine DR.go rfl ?_
    simp -dsimp only [SZ, EZ, astep, aun, AVal.cells, seval, c0]
    refine DR.ne rfl rfl ?_
    refine DR.go rfl ?_
    simp -dsimp only [SZ, EZ, astep, aun, AVal.cells, seval, hw, abin]
    refine DR.nm rfl ?_
    refine DR.inLoop ?_
    exact ih2 (i + 1) H2 (by omega) hr2
end
/-- What 'List' tells. -/
abbrev listed (l : List TM) : AVal := .tup [(norm (lst8 false l)).agg, .int .i64 0]
theorem listed_pure (l : List TM) : (listed l).pure = true := by
  have := TM.pures1 (norm (lst8 false l))
  simp only [AVal.pures, AVal.pure, Bool.and_true] at this ⊢
  exact this
theorem g100x {u : TM} (ok : u.ok) (hr : right (lst8 false u.l)) (H : AHeap) : DCall Tryz.prog 100 [.int .i64 8, u.row] H fun r H' => r = listed u.l ∧ H' = H := by
  have hp : AVal.pures [.int .i64 8, u.row] = true := by
    have := TM.purer (u := u)
    simp only [AVal.pures, Bool.and_true] at this ⊢
    rw [this]; rfl
  have hle := TM.len_le ok
  have ok8 : (lst8 u.nl u.l).ok := by
    cases u with
    | mk k n f s nl l => exact lst8_ok ok.2.2.2.2.2.2 ok.2.2.2.2.1 ok.2.2.2.2.2.1
  have ok8f : (lst8 false u.l).ok := lst8_ok (TM.ok_oks ok) hle (fun h => nomatch h)
  have hn : norm (lst8 u.nl u.l) = norm (lst8 false u.l) := rfl
  refine DCall.closed (sz := szs) hp (Q := fun r _ => r = listed u.l) (Q' := fun r => r = listed u.l) ?_ (fun r H1 hr => ⟨SizeOf.sizeOf r + 1, r, freeze_pure _ _ (by omega) (by rw [hr]; exact listed_pure _), hr⟩) H
  obtain ⟨H1, hH1, g1, n1, f1⟩ := psh AHeap.empty (.cells 25 z25)
  have hz : z25 = [.int .i64 0, .int .i64 0, .flt .f64 0, .str ⟨#[]⟩, .nils] := rfl
  have hl := TM.lenT ok H1
  have hfl : afill z25 [(0, 1, .int .i64 8), (4, 1, u.row)] = some (TM.c5 (lst8 u.nl u.l)) := by
    cases u with
    | mk k n f s nl l => cases nl <;> rfl
  refine DCall.of_body (fn := Tryz.f100) (by kernel_rfl) c100 (by kernel_rfl) (by simp [f100]) ?_
  unfold f100
  simp only []
  refine DR.go rfl ?_
  simp -dsimp only [SZ, EZ, astep, aun, AVal.cells, seval, ← hz, ← hH1]
  refine DR.go rfl ?_
  simp -dsimp only [SZ, EZ, astep, aun, AVal.cells, seval, hl]
  refine DR.nm rfl ?_
  refine DR.loop ?_
  refine loop100x ok (fun x hx => right_of ok8f hr hx) rfl (fun H2 g2 => ?_) u.l.length 0 H1 (by omega) g1
  obtain ⟨H3, hH3, g3, n3, f3⟩ := psh H2 (.cells 25 z25)
  have s3 := store_all (n := 5) g3 (new := TM.c5 (lst8 u.nl u.l)) rfl (TM.ones5 _) rfl
  obtain ⟨H4, hH4, g4, n4, f4⟩ := upd g3 (.cells 25 (TM.c5 (lst8 u.nl u.l)))
  have l4 := load_all (n := 5) g4 rfl
  have t4 : H4.get AHeap.empty.next = some (.cells 25 z25) := by
    have := AHeap.get_lt g2
    rw [f4 _ (by omega), f3 _ this]; exact g2
  refine DR.go rfl ?_
  simp -dsimp only [SZ, EZ, astep, aun, AVal.cells, seval, Env.parts, ← hz, hfl, ← hH3, s3, ← hH4]
  refine DR.go rfl ?_
  simp -dsimp only [SZ, EZ, astep, aun, AVal.cells, seval, l4]
  refine (g87x (lst8 u.nl u.l) ok8 (right_lst (t := lst8 false u.l) rfl hr u.nl) H4).mono ?_
  rintro r H' ⟨rfl, he⟩
  obtain rfl := he.symm
  have c0 : abin .neq (.int .i64 0) (.int .i64 0) = some (.bool false) := neq_int _ _
  have s5 := store_all (n := 5) t4 (new := TM.c5 (norm (lst8 u.nl u.l))) rfl (TM.ones5 _) rfl
  obtain ⟨H5, hH5, g5, n5, f5⟩ := upd t4 (.cells 25 (TM.c5 (norm (lst8 u.nl u.l))))
  have l5 := load_all (n := 5) g5 rfl
  simp -dsimp only [SZ, EZ, astep, aun, AVal.cells, seval, c0]
  refine DR.ne rfl rfl ?_
  refine DR.go rfl ?_
  simp -dsimp only [SZ, EZ, astep, aun, AVal.cells, seval, l4]
  refine (g50 (lst8 u.nl u.l) ok8 H4).mono ?_
  rintro r H' ⟨rfl, he⟩
  obtain rfl := he.symm
  simp -dsimp only [SZ, EZ, astep, aun, AVal.cells, seval, s5, ← hH5]
  refine DR.nm rfl ?_
  exact DR.ret ⟨.tup [(norm (lst8 u.nl u.l)).agg, .int .i64 0], by simp [aresult, ares, Env.get, l5], rfl⟩
end Go.Am.Rl

/- Rows put together: slices.Grow of nil, slices.Concat of two rows of which the second has no elements. -/
namespace Go.Am.Rl
open Go.Proofs

theorem zeros_length : ∀ m : Nat, (List.replicate m z25).flatten.length = m * 5
  | 0 => rfl
  | m + 1 => by rw [List.replicate_succ, List.flatten_cons, List.length_append, zeros_length m]; show 5 + m * 5 = _; omega
theorem g101 {m : Nat} (hm : m ≤ 2 ^ 41) (H : AHeap) : DCall Tryz.prog 101 [.nils, .int .i64 (m : Nat)] H fun r H' => Gro H H' ∧ ((m = 0 ∧ r = .nils) ∨ (0 < m ∧ ∃ id, r = .sl id 0 0 none ∧ H'.get id = some (.cells 25 (List.replicate m z25).flatten) ∧ H.next ≤ id)) := by
  have c0 : abin .lss (.int .i64 (m : Nat)) (.int .i64 0) = some (.bool false) := by simp [abin]
  have h1 : alenT H 1 .nils = some 0 := rfl
  have h3 : alenT H 3 .nils = some 0 := rfl
  have d1 : abin .sub (.int .i64 0) (.int .i64 0) = some (.int .i64 0) := rfl
  have d2 : abin .sub (.int .i64 (m : Nat)) (.int .i64 0) = some (.int .i64 (m : Nat)) := by
    show some (AVal.int .i64 (IntKind.i64.wrap ((m : Int) - 0))) = _
    rw [Int.sub_zero, wrap64 (by omega)]
  refine DCall.of_body (fn := Tryz.f101) (by kernel_rfl) c101 (by kernel_rfl) (by simp [f101]) ?_
  unfold f101
  simp only []
  refine DR.go rfl ?_
  simp -dsimp only [SZ, EZ, astep, aun, AVal.cells, seval]
  refine DR.go rfl ?_
  simp -dsimp only [SZ, EZ, astep, aun, AVal.cells, seval, c0]
  refine DR.ne rfl rfl ?_
  refine DR.go rfl ?_
  simp -dsimp only [SZ, EZ, astep, aun, AVal.cells, seval, h1, h3, d1, d2]
  by_cases h0 : m = 0
  · have c1 : abin .gtr (.int .i64 (m : Nat)) (.int .i64 0) = some (.bool false) := by simp [abin]; omega
    refine DR.go rfl ?_
    simp -dsimp only [SZ, EZ, astep, aun, AVal.cells, seval, c1]
    refine DR.ne rfl rfl ?_
    refine DR.go rfl ?_
    simp -dsimp only [SZ, EZ, astep, aun, AVal.cells, seval]
    refine DR.nm rfl ?_
    exact DR.ret ⟨_, by simp [aresult, ares, Env.get] <;> rfl, Gro.refl _, .inl ⟨h0, rfl⟩⟩
  · have c1 : abin .gtr (.int .i64 (m : Nat)) (.int .i64 0) = some (.bool true) := by simp [abin]; omega
    obtain ⟨H1, hH1, g1, n1, f1⟩ := psh H (.cells 25 (List.replicate m z25).flatten)
    have hz : z25 = [.int .i64 0, .int .i64 0, .flt .f64 0, .str ⟨#[]⟩, .nils] := rfl
    have ha : aappN 25 z25 64 H .nils (.int .i64 (m : Nat)) = some (.sl H.next 0 m none, H1) := by
      simp only [aappN]
      rw [if_pos ⟨by omega, by omega, by omega, by decide⟩, hH1]; rfl
    have r1 : rowOf H 25 .nils = true := rfl
    have r2 : rowOf H1 25 (.sl H.next 0 m none) = true := by simp [rowOf, g1]
    have s1 : ∀ T : Env, T.get 19 = some (.int .i64 0) → aslc 5 T .nils none (some (.t 19)) none = some .nils := fun T h => by simp only [aslc, abound, Env.val, h]; rfl
    have s2 : ∀ T : Env, T.get 24 = some (.int .i64 0) → aslc 5 T (.sl H.next 0 m none) none (some (.t 24)) none = some (.sl H.next 0 0 none) := fun T h => by
      simp only [aslc, abound, Env.val, h, Option.bind_eq_bind, Option.bind_some]
      rw [if_pos ⟨by omega, by omega⟩]
      simp only [Option.bind_some]
      rw [if_neg (by omega)]
      simp
    have h1' : alenT H1 1 .nils = some 0 := rfl
    refine DR.go rfl ?_
    simp -dsimp only [SZ, EZ, astep, aun, AVal.cells, seval, c1]
    refine DR.ye rfl rfl ?_
    refine DR.ops ?_
    simp -dsimp only [SZ, EZ, astep, aun, AVal.cells, seval, h1, h3, h1', r1, r2, ← hz, ha, s1, s2, Env.get, Env.val]
    refine DR.go rfl ?_
    simp -dsimp only [SZ, EZ, astep, aun, AVal.cells, seval]
    refine DR.nm rfl ?_
    exact DR.ret ⟨_, by simp [aresult, ares, Env.get] <;> rfl, ⟨by omega, f1⟩, .inr ⟨by omega, _, rfl, g1, Nat.le_refl _⟩⟩
theorem app_full {a : TM} (ok : a.ok) (h0 : 0 < a.l.length) {H : AHeap} {id : Nat} {cs : List AVal} (g : H.get id = some (.cells 25 cs)) (hc : cs.length = a.l.length * 5) : aapp 25 5 64 H (.sl id 0 0 none) a.row = some (.sl id 0 a.l.length none, H.set id (.cells 25 (TM.flat a.l))) := by
  have hle := TM.len_le ok
  have hcs : (TM.flat a.l).length = a.l.length * 5 := TM.flat_length a.l
  have hrow : a.row = .ros (TM.flat a.l) a.l.length := by
    cases a with
    | mk k n f s nl l =>
      cases nl with
      | true => have hl : l = [] := ok.2.2.2.2.2.1 rfl; subst hl; exact absurd h0 (Nat.lt_irrefl 0)
      | false => rfl
  have hsl : sliceCells H 5 (.ros (TM.flat a.l) a.l.length) = some (TM.flat a.l) := by
    simp only [sliceCells]
    rw [if_pos (by omega), ← hcs, List.take_length]
  have hno : ¬ (ones (TM.flat a.l) = false ∨ 5 = 0 ∨ (TM.flat a.l).length ≠ a.l.length * 5) := by
    rw [ones_flat, hcs]; simp
  have hput : aput cs (0 + 0 * 5) (TM.flat a.l) = TM.flat a.l := by
    simp only [aput, Nat.zero_mul, Nat.zero_add, List.take_zero, List.nil_append]
    rw [List.drop_eq_nil_of_le (by omega), List.append_nil]
  rw [hrow]
  simp only [aapp, Go.Am.alen, hsl, if_neg hno, g]
  rw [if_neg (by omega), if_pos ⟨by omega, by omega, by omega, trivial⟩, if_pos (by omega), hput, Nat.zero_add]
theorem app_none {b : TM} (ok : b.ok) (h0 : b.l = []) {H : AHeap} {x : AVal} (hx : x = .nils ∨ ∃ id m, x = .sl id 0 m none) : aapp 25 5 64 H x b.row = some (x, H) := by
  cases b with
  | mk k n f s nl l =>
    obtain rfl : l = [] := h0
    cases nl <;> rcases hx with rfl | ⟨id, m, rfl⟩ <;> rfl
theorem app_nil {b : TM} (ok : b.ok) (h0 : b.l.length = 0) {H : AHeap} : aapp 25 5 64 H .nils b.row = some (.nils, H) := app_none ok (List.length_eq_zero_iff.mp h0) (.inl rfl)
theorem g65 {a b : TM} (oa : a.ok) (ob : b.ok) (hb : b.l = []) {H : AHeap} {aid : Nat} {cap : Option Nat} (g : H.get aid = some (.cells 23 [a.row, b.row])) :
    DCall Tryz.prog 65 [.sl aid 0 2 cap] H fun r H' => Gro H H' ∧ ((a.l.length = 0 ∧ r = .nils) ∨ (0 < a.l.length ∧ ∃ id, r = .sl id 0 a.l.length none ∧ H'.get id = some (.cells 25 (TM.flat a.l)) ∧ H.next ≤ id)) := by
  have hle := TM.len_le oa
  have h2 : alenT H 1 (.sl aid 0 2 cap) = some 2 := rfl
  have c02 : abin .lss (.int .i64 0) (.int .i64 ((2 : Nat) : Int)) = some (.bool true) := rfl
  have c12 : abin .lss (.int .i64 1) (.int .i64 ((2 : Nat) : Int)) = some (.bool true) := rfl
  have c22 : abin .lss (.int .i64 2) (.int .i64 ((2 : Nat) : Int)) = some (.bool false) := rfl
  have a01 : abin .add (.int .i64 0) (.int .i64 1) = some (.int .i64 1) := rfl
  have a12 : abin .add (.int .i64 1) (.int .i64 1) = some (.int .i64 2) := rfl
  have i0 : ∀ H : AHeap, aiaddr H 1 (.sl aid 0 2 cap) (.int .i64 0) = some (.ptr aid 0) := fun H => rfl
  have i1 : ∀ H : AHeap, aiaddr H 1 (.sl aid 0 2 cap) (.int .i64 1) = some (.ptr aid 1) := fun H => rfl
  have l0 := load_cell g (o := 0) (v := a.row) rfl
  have l1 := load_cell g (o := 1) (v := b.row) rfl
  have la := TM.lenT oa H
  have lb : alenT H 1 b.row = some 0 := by have := TM.lenT ob H; rw [hb] at this; exact this
  have s1 : abin .add (.int .i64 0) (.int .i64 (a.l.length : Nat)) = some (.int .i64 (a.l.length : Nat)) := by
    show some (AVal.int .i64 (IntKind.i64.wrap (0 + (a.l.length : Int)))) = _
    rw [Int.zero_add, wrap64 (by omega)]
  have s2 : abin .add (.int .i64 (a.l.length : Nat)) (.int .i64 0) = some (.int .i64 (a.l.length : Nat)) := add_nat (b := 0) (by omega)
  have c0 : abin .lss (.int .i64 (a.l.length : Nat)) (.int .i64 0) = some (.bool false) := by simp [abin]
  refine DCall.of_body (fn := Tryz.f65) (by kernel_rfl) c65 (by kernel_rfl) (by simp [f65]) ?_
  unfold f65
  simp only []
  refine DR.go rfl ?_
  simp -dsimp only [SZ, EZ, astep, aun, AVal.cells, seval]
  refine DR.go rfl ?_
  simp -dsimp only [SZ, EZ, astep, aun, AVal.cells, seval]
  refine DR.go rfl ?_
  simp -dsimp only [SZ, EZ, astep, aun, AVal.cells, seval, h2]
  refine DR.nm rfl ?_
  refine DR.loop ?_
  refine DR.go rfl ?_
  simp -dsimp only [SZ, EZ, astep, aun, AVal.cells, seval, c02]
  refine DR.ye rfl rfl ?_
  refine DR.go rfl ?_
  simp -dsimp only [SZ, EZ, astep, aun, AVal.cells, seval, i0, l0]
  refine DR.go rfl ?_
  simp -dsimp only [SZ, EZ, astep, aun, AVal.cells, seval, la, s1]
  refine DR.go rfl ?_
  simp -dsimp only [SZ, EZ, astep, aun, AVal.cells, seval, c0]
  refine DR.ne rfl rfl ?_
  refine DR.go rfl ?_
  simp -dsimp only [SZ, EZ, astep, aun, AVal.cells, seval, a01]
  refine DR.nm rfl ?_
  refine DR.inLoop ?_
  refine DR.go rfl ?_
  simp -dsimp only [SZ, EZ, astep, aun, AVal.cells, seval, c12]
  refine DR.ye rfl rfl ?_
  refine DR.go rfl ?_
  simp -dsimp only [SZ, EZ, astep, aun, AVal.cells, seval, i1, l1]
  refine DR.go rfl ?_
  simp -dsimp only [SZ, EZ, astep, aun, AVal.cells, seval, lb, s2]
  refine DR.go rfl ?_
  simp -dsimp only [SZ, EZ, astep, aun, AVal.cells, seval, c0]
  refine DR.ne rfl rfl ?_
  refine DR.go rfl ?_
  simp -dsimp only [SZ, EZ, astep, aun, AVal.cells, seval, a12]
  refine DR.nm rfl ?_
  refine DR.inLoop ?_
  refine DR.go rfl ?_
  simp -dsimp only [SZ, EZ, astep, aun, AVal.cells, seval, c22]
  refine DR.ne rfl rfl ?_
  refine DR.nm rfl ?_
  refine DR.exit rfl ?_
  refine DR.go rfl ?_
  simp -dsimp only [SZ, EZ, astep, aun, AVal.cells, seval]
  refine (g101 (m := a.l.length) hle H).mono ?_
  rintro v H1 ⟨b1, hv⟩
  have k1 := b1.get g
  have l0 := load_cell k1 (o := 0) (v := a.row) rfl
  have h2 : alenT H1 1 (.sl aid 0 2 cap) = some 2 := rfl
  rcases hv with ⟨hz, rfl⟩ | ⟨hpos, id, rfl, hid, hn⟩
  · have l1 := load_cell k1 (o := 1) (v := b.row) rfl
    have p1 := app_nil oa hz (H := H1)
    have p2 := app_nil ob (by rw [hb]; rfl) (H := H1)
    simp -dsimp only [SZ, EZ, astep, aun, AVal.cells, seval]
    refine DR.go rfl ?_
    simp -dsimp only [SZ, EZ, astep, aun, AVal.cells, seval, h2]
    refine DR.nm rfl ?_
    refine DR.loop ?_
    refine DR.go rfl ?_
    simp -dsimp only [SZ, EZ, astep, aun, AVal.cells, seval, c02]
    refine DR.ye rfl rfl ?_
    refine DR.go rfl ?_
    simp -dsimp only [SZ, EZ, astep, aun, AVal.cells, seval, i0, l0]
    refine DR.go rfl ?_
    simp -dsimp only [SZ, EZ, astep, aun, AVal.cells, seval, p1]
    refine DR.go rfl ?_
    simp -dsimp only [SZ, EZ, astep, aun, AVal.cells, seval, a01]
    refine DR.nm rfl ?_
    refine DR.inLoop ?_
    refine DR.go rfl ?_
    simp -dsimp only [SZ, EZ, astep, aun, AVal.cells, seval, c12]
    refine DR.ye rfl rfl ?_
    refine DR.go rfl ?_
    simp -dsimp only [SZ, EZ, astep, aun, AVal.cells, seval, i1, l1]
    refine DR.go rfl ?_
    simp -dsimp only [SZ, EZ, astep, aun, AVal.cells, seval, p2]
    refine DR.go rfl ?_
    simp -dsimp only [SZ, EZ, astep, aun, AVal.cells, seval, a12]
    refine DR.nm rfl ?_
    refine DR.inLoop ?_
    refine DR.go rfl ?_
    simp -dsimp only [SZ, EZ, astep, aun, AVal.cells, seval, c22]
    refine DR.ne rfl rfl ?_
    refine DR.nm rfl ?_
    refine DR.exit rfl ?_
    refine DR.go rfl ?_
    simp -dsimp only [SZ, EZ, astep, aun, AVal.cells, seval]
    refine DR.nm rfl ?_
    exact DR.ret ⟨_, by simp [aresult, ares, Env.get] <;> rfl, b1, .inl ⟨hz, rfl⟩⟩
  · have p1 := app_full oa hpos hid (zeros_length _)
    obtain ⟨H2, hH2, g2, n2, f2⟩ := upd hid (.cells 25 (TM.flat a.l))
    have l1 := load_cell ((f2 aid (by have := AHeap.get_lt g; omega)).trans k1) (o := 1) (v := b.row) rfl
    have p2 := app_none ob hb (H := H2) (.inr ⟨id, a.l.length, rfl⟩)
    simp -dsimp only [SZ, EZ, astep, aun, AVal.cells, seval]
    refine DR.go rfl ?_
    simp -dsimp only [SZ, EZ, astep, aun, AVal.cells, seval, h2]
    refine DR.nm rfl ?_
    refine DR.loop ?_
    refine DR.go rfl ?_
    simp -dsimp only [SZ, EZ, astep, aun, AVal.cells, seval, c02]
    refine DR.ye rfl rfl ?_
    refine DR.go rfl ?_
    simp -dsimp only [SZ, EZ, astep, aun, AVal.cells, seval, i0, l0]
    refine DR.go rfl ?_
    simp -dsimp only [SZ, EZ, astep, aun, AVal.cells, seval, p1, ← hH2]
    refine DR.go rfl ?_
    simp -dsimp only [SZ, EZ, astep, aun, AVal.cells, seval, a01]
    refine DR.nm rfl ?_
    refine DR.inLoop ?_
    refine DR.go rfl ?_
    simp -dsimp only [SZ, EZ, astep, aun, AVal.cells, seval, c12]
    refine DR.ye rfl rfl ?_
    refine DR.go rfl ?_
    simp -dsimp only [SZ, EZ, astep, aun, AVal.cells, seval, i1, l1]
    refine DR.go rfl ?_
    simp -dsimp only [SZ, EZ, astep, aun, AVal.cells, seval, p2]
    refine DR.go rfl ?_
    simp -dsimp only [SZ, EZ, astep, aun, AVal.cells, seval, a12]
    refine DR.nm rfl ?_
    refine DR.inLoop ?_
    refine DR.go rfl ?_
    simp -dsimp only [SZ, EZ, astep, aun, AVal.cells, seval, c22]
    refine DR.ne rfl rfl ?_
    refine DR.nm rfl ?_
    refine DR.exit rfl ?_
    refine DR.go rfl ?_
    simp -dsimp only [SZ, EZ, astep, aun, AVal.cells, seval]
    refine DR.nm rfl ?_
    exact DR.ret ⟨_, by simp [aresult, ares, Env.get] <;> rfl, ⟨by rw [n2]; exact b1.1, fun j hj => by rw [f2 j (by omega), b1.2 j hj]⟩, .inr ⟨hpos, id, rfl, g2, hn⟩⟩
end Go.Am.Rl

/- What '++' and 'not' tell. -/
namespace Go.Am.Rl
open Go.Proofs

theorem g64x {u : TM} (ok : u.ok) (hr : right (lst8 false u.l)) (H : AHeap) : DCall Tryz.prog 64 [u.row] H fun r H' => r = listed u.l ∧ H' = H := by
  refine DCall.closed (sz := szs) (TM.purer (u := u)) (Q := fun r _ => r = listed u.l) (Q' := fun r => r = listed u.l) ?_ (fun r H1 hr => ⟨SizeOf.sizeOf r + 1, r, freeze_pure _ _ (by omega) (by rw [hr]; exact listed_pure _), hr⟩) H
  obtain ⟨H1, hH1, g1, n1, f1⟩ := psh AHeap.empty (.cells 25 z25)
  have hz : z25 = [.int .i64 0, .int .i64 0, .flt .f64 0, .str ⟨#[]⟩, .nils] := rfl
  refine DCall.of_body (fn := Tryz.f64) (by kernel_rfl) c64 (by kernel_rfl) (by simp [f64]) ?_
  unfold f64
  simp only []
  refine DR.go rfl ?_
  simp -dsimp only [SZ, EZ, astep, aun, AVal.cells, seval, ← hz, ← hH1]
  refine DR.go rfl ?_
  simp -dsimp only [SZ, EZ, astep, aun, AVal.cells, seval]
  refine (g100x ok hr H1).mono ?_
  rintro r H' ⟨rfl, he⟩
  obtain rfl := he.symm
  obtain ⟨H2, hH2, g2, n2, f2⟩ := upd g1 (.cells 25 (TM.c5 (norm (lst8 false u.l))))
  have s1 := store_all (n := 5) g1 (new := TM.c5 (norm (lst8 false u.l))) rfl (TM.ones5 _) rfl
  have l1 := load_all (n := 5) g2 rfl
  have iy0 : ([(norm (lst8 false u.l)).agg, .int .i64 0] : List AVal)[0]? = some (norm (lst8 false u.l)).agg := rfl
  have iy1 : ([(norm (lst8 false u.l)).agg, .int .i64 0] : List AVal)[1]? = some (.int .i64 0) := rfl
  simp -dsimp only [SZ, EZ, astep, aun, AVal.cells, seval, listed, iy0, iy1, s1, ← hH2]
  refine DR.nm rfl ?_
  exact DR.ret ⟨.tup [(norm (lst8 false u.l)).agg, .int .i64 0], by simp [aresult, ares, Env.get, l1], rfl⟩
theorem g64r {l : List TM} (ok : (TM.of false l).ok) (hr : right (lst8 false l)) {H : AHeap} {id : Nat} {cap : Option Nat} (g : H.get id = some (.cells 25 (TM.flat l))) : DCall Tryz.prog 64 [.sl id 0 l.length cap] H fun r H' => r = listed l ∧ H' = H.del id :=
  DCall.retire (K := fun r => r = listed l) (n := l.length) (args' := [(TM.of false l).row]) g (TM.pures _) (by
    show freezeL (fr1 id l.length (TM.flat l)) [.sl id 0 l.length cap] = some [.ros (TM.flat l) l.length]
    simp [freezeL, fr1, AVal.pure]) (fun r h => by rw [h]; exact listed_pure _) (g64x ok hr AHeap.empty)
/-- An argument of a kind, or a panic. -/
theorem g47v {u x : TM} {i : Nat} {cid : Nat} {kd : Int} {v : AVal} {H : AHeap} (ok : u.ok) (hx : u.l[i]? = some x) (g : H.get cid = some (.cells 49 [u.row, v])) :
    DCallX Tryz.prog 47 [.ptr cid 0, .int .i64 (i : Nat), .int .i64 kd] H fun o H' => Gro H H' ∧ ((x.k = kd ∧ o = .ret x.agg) ∨ (x.k ≠ kd ∧ o = .pan (err 13))) := by
  obtain ⟨H1, hH1, g1, n1, f1⟩ := psh H (.cells 25 z25)
  have hz : z25 = [.int .i64 0, .int .i64 0, .flt .f64 0, .str ⟨#[]⟩, .nils] := rfl
  have t1 := (f1 _ (AHeap.get_lt g)).trans g
  have l0 := load_cell t1 (o := 0) (v := u.row) rfl
  have ra := TM.row_at ok hx H1
  have la := TM.load x (TM.flat (u.l.drop (i + 1))) H1
  have lk : aload H1 none (.rop (x.cells ++ TM.flat (u.l.drop (i + 1)))) = some (.int .i64 x.k) := by rw [TM.cells_eq]; rfl
  by_cases hk : x.k = kd
  · have hc : abin .neq (.int .i64 x.k) (.int .i64 kd) = some (.bool false) := by rw [hk]; exact neq_int _ _
    have s1 := store_all (n := 5) g1 (new := TM.c5 x) rfl (TM.ones5 _) rfl
    obtain ⟨H2, hH2, g2, n2, f2⟩ := upd g1 (.cells 25 (TM.c5 x))
    have l2 := load_all (n := 5) g2 rfl
    refine DCallX.of_body (fn := Tryz.f47) (by kernel_rfl) c47 (by kernel_rfl) (by simp [f47]) ?_
    unfold f47
    simp only []
    refine DRX.go rfl ?_
    simp -dsimp only [XZ, SZ, EZ, astep, aun, AVal.cells, seval, ← hz, ← hH1]
    refine DRX.go rfl ?_
    simp -dsimp only [XZ, SZ, EZ, astep, aun, AVal.cells, seval, l0, ra, lk, hc]
    refine DRX.ne rfl rfl ?_
    refine DRX.go rfl ?_
    simp -dsimp only [XZ, SZ, EZ, astep, aun, AVal.cells, seval, l0, ra, la, s1, ← hH2]
    refine DRX.nm rfl ?_
    exact DRX.ret ⟨x.agg, by simp [aresult, ares, Env.get, l2], ⟨by omega, fun j hj => by rw [f2 j (by omega), f1 j hj]⟩, .inl ⟨hk, rfl⟩⟩
  · have hc : abin .neq (.int .i64 x.k) (.int .i64 kd) = some (.bool true) := by simp [abin, hk]
    refine DCallX.of_body (fn := Tryz.f47) (by kernel_rfl) c47 (by kernel_rfl) (by simp [f47]) ?_
    unfold f47
    simp only []
    refine DRX.go rfl ?_
    simp -dsimp only [XZ, SZ, EZ, astep, aun, AVal.cells, seval, ← hz, ← hH1]
    refine DRX.go rfl ?_
    simp -dsimp only [XZ, SZ, EZ, astep, aun, AVal.cells, seval, l0, ra, lk, hc]
    refine DRX.ye rfl rfl ?_
    refine DRX.go rfl ?_
    simp -dsimp only [XZ, SZ, EZ, astep, aun, AVal.cells, seval]
    refine g48.mono ?_
    rintro o H2 ⟨b2, rfl⟩
    exact ⟨Gro.trans ⟨by omega, f1⟩ b2, .inr ⟨hk, rfl⟩⟩
/-- An atom. -/
abbrev atm (s : ByteArray) : TM := .mk 3 0 0 s true []
abbrev sTrue : ByteArray := ⟨#[116, 114, 117, 101]⟩
abbrev sFalse : ByteArray := ⟨#[102, 97, 108, 115, 101]⟩
theorem truth_t : xclosed tab cmp90 100000 100 szs 30 [.bool true] = some (atm sTrue).agg := by kernel_rfl
theorem truth_f : xclosed tab cmp90 100000 100 szs 30 [.bool false] = some (atm sFalse).agg := by kernel_rfl
theorem g30 (b : Bool) (H : AHeap) : DCall Tryz.prog 30 [.bool b] H fun r H' => r = (atm (if b then sTrue else sFalse)).agg ∧ H' = H := by
  cases b with
  | true => exact (xclosed_sound mixed tab_ok cmp90_ok truth_t H).dcall
  | false => exact (xclosed_sound mixed tab_ok cmp90_ok truth_f H).dcall
theorem atm_ok {s : ByteArray} (h : s.size ≤ reachBytes) : (atm s).ok := ⟨by kernel_rfl, by kernel_rfl, by kernel_rfl, h, Nat.zero_le _, fun _ => rfl, trivial⟩
theorem neq_strs {s u : ByteArray} : abin .neq (.str s) (.str u) = some (.bool (decide (s ≠ u))) := by
  by_cases h : s = u
  · subst h; rw [neq_str]; simp
  · have : abin .neq (.str s) (.str u) = some (.bool (!(s.toList == u.toList))) := rfl
    rw [this]
    have hb : (s.toList == u.toList) = false := by
      cases hb : (s.toList == u.toList) with
      | false => rfl
      | true => exact absurd (bytes_eq (by rw [beq_toListBytes]; exact hb)) h
    rw [hb]; simp [h]
theorem eql_strs {s u : ByteArray} : abin .eql (.str s) (.str u) = some (.bool (decide (s = u))) := by
  have : abin .eql (.str s) (.str u) = some (.bool (s.toList == u.toList)) := rfl
  rw [this]
  by_cases h : s = u
  · subst h; simp
  · have hb : (s.toList == u.toList) = false := by
      cases hb : (s.toList == u.toList) with
      | false => rfl
      | true => exact absurd (bytes_eq (by rw [beq_toListBytes]; exact hb)) h
    rw [hb]; simp [h]
/-- A boolean. -/
def isBool (x : TM) : Prop := x.k = 3 ∧ (x.s = sTrue ∨ x.s = sFalse)
theorem g46 {u x : TM} {cid : Nat} {v : AVal} {H : AHeap} (ok : u.ok) (hx : u.l[0]? = some x) (g : H.get cid = some (.cells 49 [u.row, v])) :
    DCallX Tryz.prog 46 [.ptr cid 0] H (Tells H (fun y => isBool x ∧ y = atm (if x.s = sFalse then sTrue else sFalse)) (fun e => e = 13 ∧ ¬ isBool x)) := by
  obtain ⟨H1, hH1, g1, n1, f1⟩ := psh H (.cells 25 z25)
  have hz : z25 = [.int .i64 0, .int .i64 0, .flt .f64 0, .str ⟨#[]⟩, .nils] := rfl
  have t1 := (f1 _ (AHeap.get_lt g)).trans g
  have b1 : Gro H H1 := ⟨by omega, f1⟩
  refine DCallX.of_body (fn := Tryz.f46) (by kernel_rfl) c46 (by kernel_rfl) (by simp [f46]) ?_
  unfold f46
  simp only []
  refine DRX.go rfl ?_
  simp -dsimp only [XZ, SZ, EZ, astep, aun, AVal.cells, seval, ← hz, ← hH1]
  refine DRX.go rfl ?_
  simp -dsimp only [XZ, SZ, EZ, astep, aun, AVal.cells, seval]
  refine (g47v (i := 0) (kd := 3) ok hx t1).mono ?_
  rintro o H2 ⟨b2, ⟨hk, rfl⟩ | ⟨hk, rfl⟩⟩
  · obtain ⟨H3, hH3, g3, n3, f3⟩ := psh H2 (.cells 25 z25)
    have s3 := store_all (n := 5) g3 (new := TM.c5 x) rfl (TM.ones5 _) rfl
    obtain ⟨H4, hH4, g4, n4, f4⟩ := upd g3 (.cells 25 (TM.c5 x))
    have l4 := load_cell g4 (o := 3) (v := .str x.s) rfl
    have k1 : H4.get H.next = some (.cells 25 z25) := by
      have := AHeap.get_lt (b2.get g1)
      rw [f4 _ (by omega), f3 _ this]; exact b2.get g1
    have b4 : Gro H H4 := ⟨by have := b2.1; have := b1.1; omega, fun j hj => by
      have := b2.1
      rw [f4 j (by omega), f3 j (by omega), (b1.trans b2).2 j hj]⟩
    have nTF : ¬ sTrue = sFalse := by decide
    by_cases ht : x.s = sTrue
    · have e1 : abin .neq (.str x.s) (.str sTrue) = some (.bool false) := by rw [neq_strs, ht]; rfl
      have e3 : abin .eql (.str x.s) (.str sFalse) = some (.bool false) := by rw [eql_strs, ht]; rfl
      simp -dsimp only [XZ, SZ, EZ, astep, aun, AVal.cells, seval, ← hz, ← hH3, s3, ← hH4]
      refine DRX.go rfl ?_
      simp -dsimp only [XZ, SZ, EZ, astep, aun, AVal.cells, seval, l4, e1]
      refine DRX.ne rfl rfl ?_
      refine DRX.go rfl ?_
      simp -dsimp only [XZ, SZ, EZ, astep, aun, AVal.cells, seval, l4, e3]
      refine DCall.monoX (g30 false H4) ?_
      rintro r H5 ⟨rfl, he⟩
      obtain rfl := he.symm
      have s5 := store_all (n := 5) k1 (new := TM.c5 (atm sFalse)) rfl (TM.ones5 _) rfl
      obtain ⟨H6, hH6, g6, n6, f6⟩ := upd k1 (.cells 25 (TM.c5 (atm sFalse)))
      have l6 := load_all (n := 5) g6 rfl
      simp -dsimp only [XZ, SZ, EZ, astep, aun, AVal.cells, seval, Bool.false_eq_true, s5, ← hH6]
      refine DRX.nm rfl ?_
      exact DRX.ret ⟨(atm sFalse).agg, by simp [aresult, ares, Env.get, l6], ⟨by rw [n6]; exact b4.1, fun j hj => by rw [f6 j (by omega), b4.2 j hj]⟩, .inl ⟨atm sFalse, atm_ok (by decide), ⟨⟨hk, .inl ht⟩, by rw [if_neg (by rw [ht]; exact nTF)]⟩, rfl⟩⟩
    · have e1 : abin .neq (.str x.s) (.str sTrue) = some (.bool true) := by rw [neq_strs]; simp [ht]
      by_cases hf : x.s = sFalse
      · have e2 : abin .neq (.str x.s) (.str sFalse) = some (.bool false) := by rw [neq_strs, hf]; rfl
        have e3 : abin .eql (.str x.s) (.str sFalse) = some (.bool true) := by rw [eql_strs, hf]; rfl
        simp -dsimp only [XZ, SZ, EZ, astep, aun, AVal.cells, seval, ← hz, ← hH3, s3, ← hH4]
        refine DRX.go rfl ?_
        simp -dsimp only [XZ, SZ, EZ, astep, aun, AVal.cells, seval, l4, e1, e2]
        refine DRX.ne rfl rfl ?_
        refine DRX.go rfl ?_
        simp -dsimp only [XZ, SZ, EZ, astep, aun, AVal.cells, seval, l4, e3]
        refine DCall.monoX (g30 true H4) ?_
        rintro r H5 ⟨rfl, he⟩
        obtain rfl := he.symm
        have s5 := store_all (n := 5) k1 (new := TM.c5 (atm sTrue)) rfl (TM.ones5 _) rfl
        obtain ⟨H6, hH6, g6, n6, f6⟩ := upd k1 (.cells 25 (TM.c5 (atm sTrue)))
        have l6 := load_all (n := 5) g6 rfl
        simp -dsimp only [XZ, SZ, EZ, astep, aun, AVal.cells, seval, Bool.false_eq_true, s5, ← hH6]
        refine DRX.nm rfl ?_
        exact DRX.ret ⟨(atm sTrue).agg, by simp [aresult, ares, Env.get, l6], ⟨by rw [n6]; exact b4.1, fun j hj => by rw [f6 j (by omega), b4.2 j hj]⟩, .inl ⟨atm sTrue, atm_ok (by decide), ⟨⟨hk, .inr hf⟩, by rw [if_pos hf]⟩, rfl⟩⟩
      · have e2 : abin .neq (.str x.s) (.str sFalse) = some (.bool true) := by rw [neq_strs]; simp [hf]
        simp -dsimp only [XZ, SZ, EZ, astep, aun, AVal.cells, seval, ← hz, ← hH3, s3, ← hH4]
        refine DRX.go rfl ?_
        simp -dsimp only [XZ, SZ, EZ, astep, aun, AVal.cells, seval, l4, e1, e2]
        refine DRX.ye rfl rfl ?_
        refine DRX.go rfl ?_
        simp -dsimp only [XZ, SZ, EZ, astep, aun, AVal.cells, seval]
        refine g48.mono ?_
        rintro o H5 ⟨b5, rfl⟩
        exact ⟨b4.trans b5, .inr ⟨13, ⟨rfl, fun h => h.2.elim ht hf⟩, rfl⟩⟩
  · exact ⟨b1.trans b2, .inr ⟨13, ⟨rfl, fun h => hk h.1⟩, rfl⟩⟩
end Go.Am.Rl

/- '++' of a right term and a list without elements. -/
namespace Go.Am.Rl
open Go.Proofs

theorem TM.one_row (t : TM) : t.row.one = true := by
  cases t with
  | mk k n f s nl l => cases nl <;> rfl
theorem TM.row_cells (t : TM) : t.row.cells = [t.row] := by
  cases t with
  | mk k n f s nl l => cases nl <;> rfl
theorem g64c {a : TM} (oa : a.ok) (hr : right a) (hk : a.k = 8) {H : AHeap} {v : AVal} {N : Nat} (hv : (a.l.length = 0 ∧ v = .nils) ∨ (0 < a.l.length ∧ ∃ id, v = .sl id 0 a.l.length none ∧ H.get id = some (.cells 25 (TM.flat a.l)) ∧ N ≤ id)) :
    DCall Tryz.prog 64 [v] H fun r H' => r = listed a.l ∧ H'.next = H.next ∧ ∀ j, j < N → H'.get j = H.get j := by
  have hle := TM.len_le oa
  rcases hv with ⟨h0, rfl⟩ | ⟨hpos, id, rfl, g, hN⟩
  · have hl : a.l = [] := List.length_eq_zero_iff.mp h0
    have ok : (TM.of true []).ok := TM.of_ok trivial (Nat.zero_le _) (fun _ => rfl)
    have hr0 : right (lst8 false []) := by have := right_lst hk hr false; rw [hl] at this; exact this
    refine (g64x (u := TM.of true []) ok hr0 H).mono ?_
    rintro r H' ⟨rfl, rfl⟩
    exact ⟨by rw [hl]; rfl, rfl, fun _ _ => rfl⟩
  · have ok : (TM.of false a.l).ok := TM.of_ok (TM.ok_oks oa) hle (fun h => nomatch h)
    refine (g64r ok (right_lst hk hr false) g).mono ?_
    rintro r H' ⟨rfl, rfl⟩
    exact ⟨rfl, rfl, fun j hj => by rw [AHeap.get_del, if_neg (by omega)]⟩
theorem g43 {u a b : TM} {cid : Nat} {w : AVal} {H : AHeap} (ok : u.ok) (ha : u.l[0]? = some a) (hb : u.l[1]? = some b) (hbk : b.k = 8) (hbl : b.l = []) (hr : right a) (g : H.get cid = some (.cells 49 [u.row, w])) :
    DCallX Tryz.prog 43 [.ptr cid 0] H (Tells H (fun y => a.k = 8 ∧ y = norm (lst8 false a.l)) (fun e => e = 13 ∧ a.k ≠ 8)) := by
  have oa := TM.ok_at ok ha
  have ob := TM.ok_at ok hb
  have hle := TM.len_le oa
  obtain ⟨H1, hH1, g1, n1, f1⟩ := psh H (.cells 25 z25)
  have hz : z25 = [.int .i64 0, .int .i64 0, .flt .f64 0, .str ⟨#[]⟩, .nils] := rfl
  have t1 := (f1 _ (AHeap.get_lt g)).trans g
  have b1 : Gro H H1 := ⟨by omega, f1⟩
  refine DCallX.of_body (fn := Tryz.f43) (by kernel_rfl) c43 (by kernel_rfl) (by simp [f43]) ?_
  unfold f43
  simp only []
  refine DRX.go rfl ?_
  simp -dsimp only [XZ, SZ, EZ, astep, aun, AVal.cells, seval, ← hz, ← hH1]
  refine DRX.go rfl ?_
  simp -dsimp only [XZ, SZ, EZ, astep, aun, AVal.cells, seval]
  refine (g47v (i := 0) (kd := 8) ok ha t1).mono ?_
  rintro o H2 ⟨b2, ⟨hk, rfl⟩ | ⟨hk, rfl⟩⟩
  · simp -dsimp only [XZ, SZ, EZ, astep, aun, AVal.cells, seval]
    refine (g47v (i := 1) (kd := 8) ok hb (b2.get t1)).mono ?_
    rintro o H3 ⟨b3, ⟨_, rfl⟩ | ⟨hk2, rfl⟩⟩
    · obtain ⟨H4, hH4, g4, n4, f4⟩ := psh H3 (.cells 25 z25)
      obtain ⟨H5, hH5, g5, n5, f5⟩ := psh H4 (.cells 25 z25)
      have k5 : H5.get H3.next = some (.cells 25 z25) := (f5 _ (by omega)).trans g4
      have s5 := store_all (n := 5) k5 (new := TM.c5 a) rfl (TM.ones5 _) rfl
      obtain ⟨H6, hH6, g6, n6, f6⟩ := upd k5 (.cells 25 (TM.c5 a))
      have k6 : H6.get H4.next = some (.cells 25 z25) := (f6 _ (by omega)).trans g5
      have s6 := store_all (n := 5) k6 (new := TM.c5 b) rfl (TM.ones5 _) rfl
      obtain ⟨H7, hH7, g7, n7, f7⟩ := upd k6 (.cells 25 (TM.c5 b))
      have k7 : H7.get H3.next = some (.cells 25 (TM.c5 a)) := (f7 _ (by omega)).trans g6
      have la := load_cell k7 (o := 4) (v := a.row) rfl
      have lb := load_cell g7 (o := 4) (v := b.row) rfl
      obtain ⟨H8, hH8, g8, n8, f8⟩ := psh H7 (.cells 23 [a.row, b.row])
      have hfl : afill [.nils, .nils] [(0, 1, a.row), (1, 1, b.row)] = some [a.row, b.row] := by
        simp only [afill, TM.row_cells]; rfl
      have q7 : ∀ j, j < H3.next → H7.get j = H3.get j := fun j hj => by rw [f7 j (by omega), f6 j (by omega), f5 j (by omega), f4 j hj]
      have b03 := (b1.trans b2).trans b3
      have lt3 := b03.1
      simp -dsimp only [XZ, SZ, EZ, astep, aun, AVal.cells, seval, ← hz, ← hH4, ← hH5, s5, ← hH6, s6, ← hH7]
      refine DRX.go rfl ?_
      simp -dsimp only [XZ, SZ, EZ, astep, aun, AVal.cells, seval, la, lb, Env.parts, hfl, ← hH8]
      refine DCall.monoX (g65 oa ob hbl g8) ?_
      rintro v H9 ⟨b9, hv⟩
      simp -dsimp only [XZ, SZ, EZ, astep, aun, AVal.cells, seval]
      have hfr : ∀ j, j < H3.next → H9.get j = H3.get j := fun j hj => by rw [b9.2 j (by omega), f8 j (by omega), q7 j hj]
      refine DCall.monoX (g64c oa hr hk hv) ?_
      rintro r H10 ⟨rfl, n10, f10⟩
      have hfr2 : ∀ j, j < H3.next → H10.get j = H3.get j := fun j hj => by rw [f10 j (by omega), hfr j hj]
      have iy0 : ([(norm (lst8 false a.l)).agg, .int .i64 0] : List AVal)[0]? = some (norm (lst8 false a.l)).agg := rfl
      have iy1 : ([(norm (lst8 false a.l)).agg, .int .i64 0] : List AVal)[1]? = some (.int .i64 0) := rfl
      simp -dsimp only [XZ, SZ, EZ, astep, aun, AVal.cells, seval, listed, iy0, iy1]
      refine (g35 (c := TM.c5 (norm (lst8 false a.l))) (e := 0) rfl (TM.ones5 _)).mono ?_
      rintro o H11 ⟨b11, ⟨_, rfl⟩ | ⟨h, _⟩⟩
      · have k11 : H11.get H.next = some (.cells 25 z25) := by
          have := b3.get (b2.get g1)
          have hlt := AHeap.get_lt this
          rw [b11.2 _ (by have := b9.1; omega), hfr2 _ hlt]; exact this
        have s11 := store_all (n := 5) k11 (new := TM.c5 (norm (lst8 false a.l))) rfl (TM.ones5 _) rfl
        obtain ⟨H12, hH12, g12, n12, f12⟩ := upd k11 (.cells 25 (TM.c5 (norm (lst8 false a.l))))
        have l12 := load_all (n := 5) g12 rfl
        simp -dsimp only [XZ, SZ, EZ, astep, aun, AVal.cells, seval, s11, ← hH12]
        refine DRX.nm rfl ?_
        exact DRX.ret ⟨(norm (lst8 false a.l)).agg, by simp [aresult, ares, Env.get, l12], ⟨by have := b9.1; have := b11.1; omega, fun j hj => by rw [f12 j (by omega), b11.2 j (by have := b9.1; omega), hfr2 j (by omega), b03.2 j hj]⟩, .inl ⟨_, norm_ok _ (lst8_ok (nl := false) (TM.ok_oks oa) hle (fun h => nomatch h)), ⟨hk, rfl⟩, rfl⟩⟩
      · exact absurd rfl h
    · exact absurd hbk hk2
  · exact ⟨b1.trans b2, .inr ⟨13, ⟨rfl, hk⟩, rfl⟩⟩
end Go.Am.Rl

/- An operator's sign: what it tells, or the error that it gives up with. -/
namespace Go.Am.Rl
open Go.Proofs

/-- An operator's call: its arguments. -/
abbrev opC (u : TM) : List AVal := [u.row, .nilf]
abbrev fnv (f : FuncId) : AVal := .fn (.func f) [] []
/-- What 'Op' tells. -/
def Oped (Y : TM → Prop) (E : Int → Prop) (r : AVal) : Prop := (∃ y : TM, y.ok ∧ Y y ∧ r = .tup [(norm y).agg, .int .i64 0]) ∨ ∃ e, E e ∧ r = .tup [.agg z25, .int .i64 e]
theorem Oped.pure {Y : TM → Prop} {E : Int → Prop} {r : AVal} (h : Oped Y E r) : r.pure = true := by
  rcases h with ⟨y, _, _, rfl⟩ | ⟨e, _, rfl⟩
  · have := TM.pures1 (norm y)
    simp only [AVal.pures, AVal.pure, Bool.and_true] at this ⊢
    exact this
  · rfl
section
variable {u : TM} {f : FuncId} {Y : TM → Prop} {E : Int → Prop} {sg : ByteArray}
theorem g23 {H : AHeap} {b7 b6 cid : Nat} (h7 : H.get b7 = some (.cells 50 [fnv f])) (h6 : H.get b6 = some (.cells 47 [.ptr cid 0])) (hc : H.get cid = some (.cells 49 (opC u)))
    (hf : ∀ H cid, H.get cid = some (.cells 49 (opC u)) → DCallX Tryz.prog f [.ptr cid 0] H (Tells H Y E)) : DCallX Tryz.prog 23 [.ptr b7 0, .ptr b6 0] H (Tells H Y E) := by
  obtain ⟨H1, hH1, g1, n1, f1⟩ := psh H (.cells 25 z25)
  have hz : z25 = [.int .i64 0, .int .i64 0, .flt .f64 0, .str ⟨#[]⟩, .nils] := rfl
  have l7 := load_cell ((f1 _ (AHeap.get_lt h7)).trans h7) (o := 0) (v := fnv f) rfl
  have l6 := load_cell ((f1 _ (AHeap.get_lt h6)).trans h6) (o := 0) (v := .ptr cid 0) rfl
  have b1 : Gro H H1 := ⟨by omega, f1⟩
  refine DCallX.of_body (fn := Tryz.f23) (by kernel_rfl) c23 (by kernel_rfl) (by simp [f23]) ?_
  unfold f23
  simp only []
  refine DRX.go rfl ?_
  simp -dsimp only [XZ, SZ, EZ, astep, aun, AVal.cells, seval, ← hz, ← hH1]
  refine DRX.go rfl ?_
  simp -dsimp only [XZ, SZ, EZ, astep, aun, seval, l7, l6, List.append_nil, List.nil_append]
  refine (hf H1 cid ((f1 _ (AHeap.get_lt hc)).trans hc)).mono ?_
  rintro o H3 ⟨b3, ⟨y, oy, hy, rfl⟩ | ⟨e, he, rfl⟩⟩
  · have t3 := b3.get g1
    have s1 := store_all (n := 5) t3 (new := TM.c5 y) rfl (TM.ones5 _) rfl
    obtain ⟨H4, hH4, g4, n4, f4⟩ := upd t3 (.cells 25 (TM.c5 y))
    have l6 := load_all (n := 5) g4 rfl
    simp -dsimp only [XZ, SZ, EZ, astep, aun, AVal.cells, seval, s1, ← hH4]
    refine DRX.nm rfl ?_
    exact DRX.ret ⟨y.agg, by simp [aresult, ares, Env.get, l6], ⟨by have := b1.1; have := b3.1; omega, fun i hi => by rw [f4 i (by omega), (b1.trans b3).2 i hi]⟩, .inl ⟨y, oy, hy, rfl⟩⟩
  · exact ⟨b1.trans b3, .inr ⟨e, he, rfl⟩⟩
theorem opFill (u : TM) : afill [.nils, .nilf] [(0, 1, u.row)] = some (opC u) := by
  cases u with
  | mk k n f s nl l => cases nl <;> rfl
theorem g12a {v20 : AVal} (ok : u.ok) (hlen : u.l.length = 1) (hv : v20.one = true) (h20 : ∀ H, DCall Tryz.prog 20 [.str sg] H fun r H' => r = v20 ∧ H' = H) (h21 : ∀ H, DCall Tryz.prog 21 [.str sg] H fun r H' => r = fnv f ∧ H' = H)
    (hf : ∀ H cid, H.get cid = some (.cells 49 (opC u)) → DCallX Tryz.prog f [.ptr cid 0] H (Tells H Y E)) (H : AHeap) : DCallX Tryz.prog 12 [.str sg, u.row] H fun o H' => ∃ v, o = .ret v ∧ Oped Y E v := by
  obtain ⟨H1, hH1, g1, n1, f1⟩ := psh H (.cells 25 z25)
  have hz : z25 = [.int .i64 0, .int .i64 0, .flt .f64 0, .str ⟨#[]⟩, .nils] := rfl
  obtain ⟨H2, hH2, g2, n2, f2⟩ := psh H1 (.cells 49 (opC u))
  obtain ⟨H3, hH3, g3, n3, f3⟩ := psh H2 (.cells 47 [.nilp])
  have s3 : astore H3 1 (.ptr H2.next 0) (.ptr H1.next 0) = some (H3.set H2.next (.cells 47 [.ptr H1.next 0])) := astore_one g3 (o := 0) (by simp) rfl
  obtain ⟨H4, hH4, g4, n4, f4⟩ := upd g3 (.cells 47 [.ptr H1.next 0])
  obtain ⟨H5, hH5, g5, n5, f5⟩ := psh H4 (.cells 50 [.nilf])
  have s5 : astore H5 1 (.ptr H4.next 0) v20 = some (H5.set H4.next (.cells 50 [v20])) := astore_one g5 (o := 0) (by simp) hv
  obtain ⟨H6, hH6, g6, n6, f6⟩ := upd g5 (.cells 50 [v20])
  have s6 : astore H6 1 (.ptr H4.next 0) (fnv f) = some (H6.set H4.next (.cells 50 [fnv f])) := astore_one g6 (o := 0) (by simp) rfl
  obtain ⟨H7, hH7, g7, n7, f7⟩ := upd g6 (.cells 50 [fnv f])
  have k1 : H7.get H.next = some (.cells 25 z25) := by rw [f7 _ (by omega), f6 _ (by omega), f5 _ (by omega), f4 _ (by omega), f3 _ (by omega), f2 _ (by omega)]; exact g1
  have k2 : H7.get H1.next = some (.cells 49 (opC u)) := by rw [f7 _ (by omega), f6 _ (by omega), f5 _ (by omega), f4 _ (by omega), f3 _ (by omega)]; exact g2
  have k3 : H7.get H2.next = some (.cells 47 [.ptr H1.next 0]) := by rw [f7 _ (by omega), f6 _ (by omega), f5 _ (by omega)]; exact g4
  have l7 := load_cell g7 (o := 0) (v := fnv f) rfl
  have hl6 := TM.lenT ok H6
  have hl7 := TM.lenT ok H7
  rw [hlen] at hl6 hl7
  have c0 : abin .eql (.int .i64 1) (.int .i64 1) = some (.bool true) := rfl
  have c1 : abin .lss (.int .i64 1) (.int .i64 1) = some (.bool false) := rfl
  have c2 : abin .gtr (.int .i64 1) (.int .i64 2) = some (.bool false) := rfl
  have hcell : ∀ c : List AVal, (AVal.agg c).cells = c := fun _ => rfl
  refine DCallX.of_body (fn := Tryz.f12) (by kernel_rfl) c12 (by kernel_rfl) (by simp [f12]) ?_
  unfold f12
  simp only []
  refine DRX.go rfl ?_
  simp -dsimp only [XZ, SZ, EZ, astep, aun, AVal.cells, seval, ← hz, ← hH1]
  refine DRX.go rfl ?_
  simp -dsimp only [XZ, SZ, EZ, astep, aun, AVal.cells, seval, Env.parts, opFill, hcell, ← hH2, ← hH3, s3, ← hH4]
  refine DRX.go rfl ?_
  simp -dsimp only [XZ, SZ, EZ, astep, aun, AVal.cells, seval]
  refine DCall.monoX (h20 H4) ?_
  rintro r H' ⟨rfl, he⟩
  obtain rfl := he.symm
  simp -dsimp only [XZ, SZ, EZ, astep, aun, AVal.cells, seval, ← hH5, s5, ← hH6]
  refine DRX.go rfl ?_
  simp -dsimp only [XZ, SZ, EZ, astep, aun, AVal.cells, seval, hl6, c0]
  refine DRX.ye rfl rfl ?_
  refine DRX.go rfl ?_
  simp -dsimp only [XZ, SZ, EZ, astep, aun, AVal.cells, seval]
  refine DCall.monoX (h21 H6) ?_
  rintro r H' ⟨rfl, he⟩
  obtain rfl := he.symm
  simp -dsimp only [XZ, SZ, EZ, astep, aun, AVal.cells, seval, s6, ← hH7]
  refine DRX.go rfl ?_
  simp -dsimp only [XZ, SZ, EZ, astep, aun, AVal.cells, seval, l7, anil, hl7, c1, c2]
  refine DRX.ne rfl rfl ?_
  refine DRX.go rfl ?_
  simp -dsimp only [XZ, SZ, EZ, astep, aun, AVal.cells, seval]
  refine (g22 (fun H8 b8 => g23 (b8.get g7) (b8.get k3) (b8.get k2) hf)).mono ?_
  rintro o H9 ⟨b9, ⟨y, oy, hy, rfl⟩ | ⟨e, he, rfl⟩⟩
  · have s9 := store_all (n := 5) (b9.get k1) (new := TM.c5 (norm y)) rfl (TM.ones5 _) rfl
    obtain ⟨HA, hHA, gA, nA, fA⟩ := upd (b9.get k1) (.cells 25 (TM.c5 (norm y)))
    have lA := load_all (n := 5) gA rfl
    have iy0 : ([(norm y).agg, .int .i64 0] : List AVal)[0]? = some (norm y).agg := rfl
    have iy1 : ([(norm y).agg, .int .i64 0] : List AVal)[1]? = some (.int .i64 0) := rfl
    simp -dsimp only [XZ, SZ, EZ, astep, aun, AVal.cells, seval, iy0, iy1, s9, ← hHA]
    refine DRX.nm rfl ?_
    exact DRX.ret ⟨.tup [(norm y).agg, .int .i64 0], by simp [aresult, ares, Env.get, lA], _, rfl, .inl ⟨y, oy, hy, rfl⟩⟩
  · have s9 := store_all (n := 5) (b9.get k1) (new := z25) rfl rfl rfl
    obtain ⟨HA, hHA, gA, nA, fA⟩ := upd (b9.get k1) (.cells 25 z25)
    have lA := load_all (n := 5) gA rfl
    have iy0 : ([.agg z25, .int .i64 e] : List AVal)[0]? = some (.agg z25) := rfl
    have iy1 : ([.agg z25, .int .i64 e] : List AVal)[1]? = some (.int .i64 e) := rfl
    simp -dsimp only [XZ, SZ, EZ, astep, aun, AVal.cells, seval, iy0, iy1, s9, ← hHA]
    refine DRX.nm rfl ?_
    exact DRX.ret ⟨.tup [.agg z25, .int .i64 e], by simp [aresult, ares, Env.get, lA], _, rfl, .inr ⟨e, he, rfl⟩⟩
theorem g12b (ok : u.ok) (hlen : u.l.length = 2) (h20 : ∀ H, DCall Tryz.prog 20 [.str sg] H fun r H' => r = fnv f ∧ H' = H)
    (hf : ∀ H cid, H.get cid = some (.cells 49 (opC u)) → DCallX Tryz.prog f [.ptr cid 0] H (Tells H Y E)) (H : AHeap) : DCallX Tryz.prog 12 [.str sg, u.row] H fun o H' => ∃ v, o = .ret v ∧ Oped Y E v := by
  obtain ⟨H1, hH1, g1, n1, f1⟩ := psh H (.cells 25 z25)
  have hz : z25 = [.int .i64 0, .int .i64 0, .flt .f64 0, .str ⟨#[]⟩, .nils] := rfl
  obtain ⟨H2, hH2, g2, n2, f2⟩ := psh H1 (.cells 49 (opC u))
  obtain ⟨H3, hH3, g3, n3, f3⟩ := psh H2 (.cells 47 [.nilp])
  have s3 : astore H3 1 (.ptr H2.next 0) (.ptr H1.next 0) = some (H3.set H2.next (.cells 47 [.ptr H1.next 0])) := astore_one g3 (o := 0) (by simp) rfl
  obtain ⟨H4, hH4, g4, n4, f4⟩ := upd g3 (.cells 47 [.ptr H1.next 0])
  obtain ⟨H5, hH5, g5, n5, f5⟩ := psh H4 (.cells 50 [.nilf])
  have s5 : astore H5 1 (.ptr H4.next 0) (fnv f) = some (H5.set H4.next (.cells 50 [fnv f])) := astore_one g5 (o := 0) (by simp) rfl
  obtain ⟨H7, hH7, g7, n7, f7⟩ := upd g5 (.cells 50 [fnv f])
  have k1 : H7.get H.next = some (.cells 25 z25) := by rw [f7 _ (by omega), f5 _ (by omega), f4 _ (by omega), f3 _ (by omega), f2 _ (by omega)]; exact g1
  have k2 : H7.get H1.next = some (.cells 49 (opC u)) := by rw [f7 _ (by omega), f5 _ (by omega), f4 _ (by omega), f3 _ (by omega)]; exact g2
  have k3 : H7.get H2.next = some (.cells 47 [.ptr H1.next 0]) := by rw [f7 _ (by omega), f5 _ (by omega)]; exact g4
  have l7 := load_cell g7 (o := 0) (v := fnv f) rfl
  have hl7 := TM.lenT ok H7
  rw [hlen] at hl7
  have c0 : abin .eql (.int .i64 2) (.int .i64 1) = some (.bool false) := rfl
  have c1 : abin .lss (.int .i64 2) (.int .i64 1) = some (.bool false) := rfl
  have c2 : abin .gtr (.int .i64 2) (.int .i64 2) = some (.bool false) := rfl
  have hcell : ∀ c : List AVal, (AVal.agg c).cells = c := fun _ => rfl
  refine DCallX.of_body (fn := Tryz.f12) (by kernel_rfl) c12 (by kernel_rfl) (by simp [f12]) ?_
  unfold f12
  simp only []
  refine DRX.go rfl ?_
  simp -dsimp only [XZ, SZ, EZ, astep, aun, AVal.cells, seval, ← hz, ← hH1]
  refine DRX.go rfl ?_
  simp -dsimp only [XZ, SZ, EZ, astep, aun, AVal.cells, seval, Env.parts, opFill, hcell, ← hH2, ← hH3, s3, ← hH4]
  refine DRX.go rfl ?_
  simp -dsimp only [XZ, SZ, EZ, astep, aun, AVal.cells, seval]
  refine DCall.monoX (h20 H4) ?_
  rintro r H' ⟨rfl, he⟩
  obtain rfl := he.symm
  simp -dsimp only [XZ, SZ, EZ, astep, aun, AVal.cells, seval, ← hH5, s5, ← hH7]
  refine DRX.go rfl ?_
  simp -dsimp only [XZ, SZ, EZ, astep, aun, AVal.cells, seval, hl7, c0]
  refine DRX.ne rfl rfl ?_
  refine DRX.go rfl ?_
  simp -dsimp only [XZ, SZ, EZ, astep, aun, AVal.cells, seval, l7, anil, hl7, c1, c2]
  refine DRX.ne rfl rfl ?_
  refine DRX.go rfl ?_
  simp -dsimp only [XZ, SZ, EZ, astep, aun, AVal.cells, seval]
  refine (g22 (fun H8 b8 => g23 (b8.get g7) (b8.get k3) (b8.get k2) hf)).mono ?_
  rintro o H9 ⟨b9, ⟨y, oy, hy, rfl⟩ | ⟨e, he, rfl⟩⟩
  · have s9 := store_all (n := 5) (b9.get k1) (new := TM.c5 (norm y)) rfl (TM.ones5 _) rfl
    obtain ⟨HA, hHA, gA, nA, fA⟩ := upd (b9.get k1) (.cells 25 (TM.c5 (norm y)))
    have lA := load_all (n := 5) gA rfl
    have iy0 : ([(norm y).agg, .int .i64 0] : List AVal)[0]? = some (norm y).agg := rfl
    have iy1 : ([(norm y).agg, .int .i64 0] : List AVal)[1]? = some (.int .i64 0) := rfl
    simp -dsimp only [XZ, SZ, EZ, astep, aun, AVal.cells, seval, iy0, iy1, s9, ← hHA]
    refine DRX.nm rfl ?_
    exact DRX.ret ⟨.tup [(norm y).agg, .int .i64 0], by simp [aresult, ares, Env.get, lA], _, rfl, .inl ⟨y, oy, hy, rfl⟩⟩
  · have s9 := store_all (n := 5) (b9.get k1) (new := z25) rfl rfl rfl
    obtain ⟨HA, hHA, gA, nA, fA⟩ := upd (b9.get k1) (.cells 25 z25)
    have lA := load_all (n := 5) gA rfl
    have iy0 : ([.agg z25, .int .i64 e] : List AVal)[0]? = some (.agg z25) := rfl
    have iy1 : ([.agg z25, .int .i64 e] : List AVal)[1]? = some (.int .i64 e) := rfl
    simp -dsimp only [XZ, SZ, EZ, astep, aun, AVal.cells, seval, iy0, iy1, s9, ← hHA]
    refine DRX.nm rfl ?_
    exact DRX.ret ⟨.tup [.agg z25, .int .i64 e], by simp [aresult, ares, Env.get, lA], _, rfl, .inr ⟨e, he, rfl⟩⟩
theorem opclosed (h : DCallX Tryz.prog 12 [.str sg, u.row] AHeap.empty fun o H' => ∃ v, o = .ret v ∧ Oped Y E v) (H : AHeap) : DCall Tryz.prog 12 [.str sg, u.row] H fun r H' => Oped Y E r ∧ H' = H := by
  have hp : AVal.pures [.str sg, u.row] = true := by
    have := TM.purer (u := u)
    simp only [AVal.pures, Bool.and_true] at this ⊢
    rw [this]; rfl
  exact DCall.closed (sz := szs) hp (Q := fun r _ => Oped Y E r) (DCallX.plain (Q := fun r _ => Oped Y E r) h) (fun r H1 hr => ⟨SizeOf.sizeOf r + 1, r, freeze_pure _ _ (by omega) hr.pure, hr⟩) H
end
/-- 'not', '++'. -/
abbrev sNot : ByteArray := ⟨#[110, 111, 116]⟩
abbrev sCat : ByteArray := ⟨#[43, 43]⟩
def tabN : Tab := (21, f21) :: tab
theorem tabN_ok : tabN.Ok Tryz.prog := ⟨⟨Tryz.f21, kof k21, by kernel_rfl, c21, by kernel_rfl⟩, tab_ok⟩
theorem two_not : xclosed tab cmp90 100000 100 szs 20 [.str sNot] = some .nilf := by kernel_rfl
theorem two_cat : xclosed tab cmp90 100000 100 szs 20 [.str sCat] = some (fnv 43) := by kernel_rfl
theorem one_not : xclosed tabN cmp90 100000 100 szs 21 [.str sNot] = some (fnv 46) := by kernel_rfl
/-- 'not' of a term. -/
theorem c_not {x : TM} (ox : x.ok) (H : AHeap) : DCall Tryz.prog 12 [.str sNot, (TM.of false [x]).row] H fun r H' => Oped (fun y => isBool x ∧ y = atm (if x.s = sFalse then sTrue else sFalse)) (fun e => e = 13 ∧ ¬ isBool x) r ∧ H' = H := by
  have ok : (TM.of false [x]).ok := TM.of_ok ⟨ox, trivial⟩ (by show 1 ≤ 2 ^ 41; decide) (fun h => nomatch h)
  exact opclosed (g12a ok rfl rfl (fun H => (xclosed_sound mixed tab_ok cmp90_ok two_not H).dcall) (fun H => (xclosed_sound mixed tabN_ok cmp90_ok one_not H).dcall) (fun H cid g => g46 ok rfl g) _) H
/-- '++' of a right term and a list without elements. -/
theorem c_cat {a b : TM} (oa : a.ok) (ob : b.ok) (hbk : b.k = 8) (hbl : b.l = []) (hr : right a) (H : AHeap) : DCall Tryz.prog 12 [.str sCat, (TM.of false [a, b]).row] H fun r H' => Oped (fun y => a.k = 8 ∧ y = norm (lst8 false a.l)) (fun e => e = 13 ∧ a.k ≠ 8) r ∧ H' = H := by
  have ok : (TM.of false [a, b]).ok := TM.of_ok ⟨oa, ob, trivial⟩ (by show 2 ≤ 2 ^ 41; decide) (fun h => nomatch h)
  exact opclosed (g12b ok rfl (fun H => (xclosed_sound mixed tab_ok cmp90_ok two_cat H).dcall) (fun H cid g => g43 ok rfl rfl hbk hbl hr g) _) H
end Go.Am.Rl

/- The law BifNots: it answers true. -/
namespace Go.Am.Rl
open Go.Proofs

theorem g8xr {l : List TM} (ok : (TM.of false l).ok) {H : AHeap} {id : Nat} {cap : Option Nat} (g : H.get id = some (.cells 25 (TM.flat l))) : DCall Tryz.prog 8 [.sl id 0 l.length cap] H fun r H' => (∃ b, r = .bool b ∧ (b = true → ∀ x ∈ l, right x)) ∧ H' = H := by
  refine DCall.framed (Q' := fun r => ∃ b, r = .bool b ∧ (b = true → ∀ x ∈ l, right x)) (flat_freeze l g) (TM.purer (u := TM.of false l)) (g8x false l ok) ?_
  rintro r H1 ⟨b, rfl, hb⟩
  exact ⟨1, .bool b, rfl, rfl, b, rfl, hb⟩
theorem Oped.cells {Y : TM → Prop} {E : Int → Prop} {r : AVal} (h : Oped Y E r) : ∃ c e, r = .tup [.agg c, .int .i64 e] ∧ c.length = 5 ∧ ones c = true ∧ ((e = 0 ∧ ∃ y : TM, y.ok ∧ Y y ∧ c = TM.c5 (norm y)) ∨ (E e ∧ c = z25)) := by
  rcases h with ⟨y, oy, hy, rfl⟩ | ⟨e, he, rfl⟩
  · exact ⟨_, _, rfl, rfl, TM.ones5 _, .inl ⟨rfl, y, oy, hy, rfl⟩⟩
  · exact ⟨_, _, rfl, rfl, rfl, .inr ⟨he, rfl⟩⟩
theorem fill1 (t : TM) : afill z25 [(0, 5, t.agg)] = some (TM.flat [t]) := by
  have : TM.flat [t] = TM.c5 t := by simp only [TM.flat, List.append_nil]; rw [TM.cells_eq]
  rw [this]; rfl
abbrev nil8 : TM := lst8 true []
theorem nil8_ok : nil8.ok := lst8_ok trivial (Nat.zero_le _) (fun _ => rfl)
theorem fill2 (t : TM) : afill [AVal.int IntKind.i64 0, AVal.int IntKind.i64 0, AVal.flt FloatKind.f64 0, AVal.str ⟨#[]⟩, AVal.nils, AVal.int IntKind.i64 0, AVal.int IntKind.i64 0, AVal.flt FloatKind.f64 0, AVal.str ⟨#[]⟩, AVal.nils] [(0, 5, t.agg), (5, 5, .agg (TM.c5 nil8))] = some (TM.flat [t, nil8]) := by
  have : TM.flat [t, nil8] = TM.c5 t ++ TM.c5 nil8 := by simp only [TM.flat, List.append_nil]; rw [TM.cells_eq, TM.cells_eq]
  rw [this]; rfl
theorem tail5 {t : TM} (ok : t.ok) (hr : right t) {H : AHeap} {i : Nat} (g : H.get i = some (.cells 25 (TM.c5 t))) :
    DR Tryz.prog (kof k5) 77 [.code .skip, .code (.seq (.region false r5_13 [1, 9]) (.seq (.region false r5_14 [2]) .ret))] [(1, .ptr i 0)] H fun T' H' => ∃ r, aresult H' T' [.tmp 2] = some r ∧ r = .bool true := by
  have lt := load_all (n := 5) g rfl
  have hz : z25 = [.int .i64 0, .int .i64 0, .flt .f64 0, .str ⟨#[]⟩, .nils] := rfl
  have hb8 : afill z25 [(0, 1, .int .i64 8)] = some (TM.c5 nil8) := rfl
  obtain ⟨H1, hH1, g1, n1, f1⟩ := psh H (.cells 25 (TM.flat [t, nil8]))
  have ni := AHeap.get_lt g
  refine DR.go rfl ?_
  simp -dsimp only [SZ, EZ, astep, aun, AVal.cells, seval, lt, Env.parts, ← hz, hb8]
  simp -dsimp only [SZ, EZ, astep, aun, AVal.cells, seval, hz, fill2, ← hH1]
  refine (retire_flat (l := [t, nil8]) g1 (fun r h => Oped.pure h) (c_cat ok nil8_ok rfl rfl hr AHeap.empty)).mono ?_
  rintro r H2 ⟨hop, he⟩
  obtain ⟨c, e, rfl, hc, ho, hce⟩ := hop.cells
  have t2 : H2.get i = some (.cells 25 (TM.c5 t)) := by rw [he, AHeap.get_del, if_neg (by omega), f1 _ ni]; exact g
  have n2 := AHeap.get_lt t2
  clear he
  obtain ⟨H3, hH3, g3, n3, f3⟩ := psh H2 (.cells 25 z25)
  have s3 := store_all (n := 5) g3 (new := c) hc ho rfl
  obtain ⟨H4, hH4, g4, n4, f4⟩ := upd g3 (.cells 25 c)
  have t4 : H4.get i = some (.cells 25 (TM.c5 t)) := by rw [f4 _ (by omega), f3 _ n2]; exact t2
  have lk := load_cell t4 (o := 0) (v := .int .i64 t.k) rfl
  have iy0 : ([.agg c, .int .i64 e] : List AVal)[0]? = some (.agg c) := rfl
  have iy1 : ([.agg c, .int .i64 e] : List AVal)[1]? = some (.int .i64 e) := rfl
  simp -dsimp only [SZ, EZ, astep, aun, AVal.cells, seval, iy0, iy1, ← hz, ← hH3, s3, ← hH4]
  rcases hce with ⟨rfl, y, oy, ⟨hk, _⟩, _⟩ | ⟨⟨rfl, hk⟩, _⟩
  · have c1 : abin .eql (.int .i64 0) (.int .i64 0) = some (.bool true) := rfl
    have c2 : abin .eql (.int .i64 t.k) (.int .i64 8) = some (.bool true) := by rw [hk]; rfl
    refine DR.go rfl ?_
    simp -dsimp only [SZ, EZ, astep, aun, AVal.cells, seval, c1, lk, c2]
    refine DR.nm rfl ?_
    exact DR.ret ⟨_, by simp [aresult, ares, Env.get] <;> rfl, rfl⟩
  · have c1 : abin .eql (.int .i64 13) (.int .i64 0) = some (.bool false) := rfl
    have c2 : abin .eql (.int .i64 t.k) (.int .i64 8) = some (.bool false) := by simp [abin, hk]
    refine DR.go rfl ?_
    simp -dsimp only [SZ, EZ, astep, aun, AVal.cells, seval, c1, lk, c2]
    refine DR.nm rfl ?_
    exact DR.ret ⟨_, by simp [aresult, ares, Env.get] <;> rfl, rfl⟩
theorem g5 {t : TM} (ok : t.ok) : DCall Tryz.prog 5 [t.agg] AHeap.empty fun r H' => r = .bool true := by
  have hz : z25 = [.int .i64 0, .int .i64 0, .flt .f64 0, .str ⟨#[]⟩, .nils] := rfl
  have ok1 : (TM.of false [t]).ok := TM.of_ok ⟨ok, trivial⟩ (by show 1 ≤ 2 ^ 41; decide) (fun h => nomatch h)
  obtain ⟨H1, hH1, g1, n1, f1⟩ := psh AHeap.empty (.cells 25 (TM.c5 t))
  obtain ⟨H2, hH2, g2, n2, f2⟩ := psh H1 (.cells 25 (TM.flat [t]))
  have t2 := (f2 _ (by omega)).trans g1
  have l1 := load_all (n := 5) g1 rfl
  have l2 := load_all (n := 5) t2 rfl
  refine DCall.of_body (fn := Tryz.f5) (by kernel_rfl) c5 (by kernel_rfl) (by simp [f5]) ?_
  unfold f5
  simp only []
  refine DR.go rfl ?_
  simp -dsimp only [SZ, EZ, astep, aun, AVal.cells, seval, ← hH1]
  refine DR.go rfl ?_
  simp -dsimp only [SZ, EZ, astep, aun, AVal.cells, seval]
  refine (g7 _).mono ?_
  rintro a H0 ⟨rfl, he0⟩
  simp -dsimp only [SZ, EZ, astep, aun, AVal.cells, seval]
  obtain rfl := he0.symm
  refine DR.ne rfl rfl ?_
  refine DR.go rfl ?_
  simp -dsimp only [SZ, EZ, astep, aun, AVal.cells, seval, l1, Env.parts, ← hz, fill1, ← hH2]
  refine (g8xr (l := [t]) ok1 g2).mono ?_
  rintro r H' ⟨⟨b, rfl, hb⟩, he⟩
  obtain rfl := he.symm
  cases b with
  | false =>
    simp -dsimp only [SZ, EZ, astep, aun, AVal.cells, seval, Bool.not_false]
    refine DR.ye rfl rfl ?_
    refine DR.go rfl ?_
    simp -dsimp only [SZ, EZ, astep, aun, AVal.cells, seval]
    refine DR.nm rfl ?_
    exact DR.ret ⟨_, by simp [aresult, ares, Env.get] <;> rfl, rfl⟩
  | true => ?_
  have hr : right t := hb rfl t (List.mem_singleton.mpr rfl)
  simp -dsimp only [SZ, EZ, astep, aun, AVal.cells, seval, Bool.not_true]
  refine DR.ne rfl rfl ?_
  obtain ⟨H3, hH3, g3, n3, f3⟩ := psh H2 (.cells 25 (TM.flat [t]))
  refine DR.go rfl ?_
  simp -dsimp only [SZ, EZ, astep, aun, AVal.cells, seval, l2, Env.parts, ← hz, fill1, ← hH3]
  refine (retire_flat (l := [t]) g3 (fun r h => Oped.pure h) (c_not ok AHeap.empty)).mono ?_
  rintro r H4 ⟨hop, he⟩
  obtain ⟨c, e, rfl, hc, ho, hce⟩ := hop.cells
  have t4 : H4.get AHeap.empty.next = some (.cells 25 (TM.c5 t)) := by rw [he, AHeap.get_del, if_neg (by omega), f3 _ (by omega)]; exact t2
  have n4 := AHeap.get_lt t4
  clear he
  obtain ⟨H5, hH5, g5, n5, f5⟩ := psh H4 (.cells 25 z25)
  have s5 := store_all (n := 5) g5 (new := c) hc ho rfl
  obtain ⟨H6, hH6, g6, n6, f6⟩ := upd g5 (.cells 25 c)
  have t6 : H6.get AHeap.empty.next = some (.cells 25 (TM.c5 t)) := by rw [f6 _ (by omega), f5 _ n4]; exact t4
  have lk := load_cell t6 (o := 0) (v := .int .i64 t.k) rfl
  have ls := load_cell t6 (o := 3) (v := .str t.s) rfl
  have iy0 : ([.agg c, .int .i64 e] : List AVal)[0]? = some (.agg c) := rfl
  have iy1 : ([.agg c, .int .i64 e] : List AVal)[1]? = some (.int .i64 e) := rfl
  simp -dsimp only [SZ, EZ, astep, aun, AVal.cells, seval, iy0, iy1, ← hz, ← hH5, s5, ← hH6]
  have nTF : ¬ sTrue = sFalse := by decide
  have nFT : ¬ sFalse = sTrue := by decide
  rcases hce with ⟨rfl, y, oy, ⟨hk, rfl⟩, rfl⟩ | ⟨⟨rfl, hk⟩, rfl⟩
  · obtain ⟨hk, hs⟩ := hk
    have c1 : abin .eql (.int .i64 t.k) (.int .i64 3) = some (.bool true) := by rw [hk]; rfl
    obtain ⟨b1, hb1⟩ : ∃ b, abin .eql (.str t.s) (.str sTrue) = some (.bool b) := ⟨_, eql_strs⟩
    have c3 : b1 = false → abin .eql (.str t.s) (.str sFalse) = some (.bool true) := by
      intro h
      rw [eql_strs] at hb1 ⊢
      rcases hs with hs | hs
      · rw [hs, h] at hb1; simp at hb1
      · rw [hs]; simp
    have go : DR Tryz.prog (kof k5) 77 [.code (.seq (.seq (.region false r5_7 [1, 3, 4, 35]) (.cond (.t 35) (.seq (.region false r5_8 [1, 3, 4, 6, 7]) (.seq (.region false r5_9 [1, 61]) (.cond (.t 61) (.seq (.region false r5_10 [2]) .ret) .skip))) (.seq (.region false r5_11 [1, 63]) (.cond (.t 63) (.seq (.region false r5_12 [2]) .ret) .skip)))) (.seq (.region false r5_13 [1, 9]) (.seq (.region false r5_14 [2]) .ret)))] [(1, .ptr AHeap.empty.next 0), (3, .ptr H4.next 0), (4, .int .i64 0), (5, .bool true)] H6 fun T' H' => ∃ r, aresult H' T' [.tmp 2] = some r ∧ r = .bool true := by
      obtain ⟨v, hv⟩ : ∃ v, v = (if t.s = sFalse then sTrue else sFalse) := ⟨_, rfl⟩
      rw [← hv] at g6
      have hvb : v = sTrue ∨ v = sFalse := by rw [hv]; split <;> simp
      have hvt : v ≠ t.s := by
        rw [hv]
        rcases hs with hs | hs
        · rw [hs, if_neg nTF]; exact nFT
        · rw [hs, if_pos rfl]; exact nTF
      have hvv : (if v = sFalse then sTrue else sFalse) = t.s := by
        rw [hv]
        rcases hs with hs | hs
        · rw [hs, if_neg nTF, if_pos rfl]
        · rw [hs, if_pos rfl, if_neg nTF]
      have okv : (atm v).ok := atm_ok (by rcases hvb with h | h <;> rw [h] <;> decide)
      have okv1 : (TM.of false [atm v]).ok := TM.of_ok ⟨okv, trivial⟩ (by show 1 ≤ 2 ^ 41; decide) (fun h => nomatch h)
      have g6 : H6.get H4.next = some (.cells 25 (TM.c5 (atm v))) := g6
      have l6 := load_all (n := 5) g6 rfl
      obtain ⟨H7, hH7, g7', n7, f7⟩ := psh H6 (.cells 25 (TM.flat [atm v]))
      refine DR.go rfl ?_
      simp -dsimp only [SZ, EZ, astep, aun, AVal.cells, seval]
      refine DR.ye rfl rfl ?_
      refine DR.go rfl ?_
      simp -dsimp only [SZ, EZ, astep, aun, AVal.cells, seval, l6, Env.parts, ← hz, fill1, ← hH7]
      refine (retire_flat (l := [atm v]) g7' (fun r h => Oped.pure h) (c_not okv AHeap.empty)).mono ?_
      rintro r H8 ⟨hop, he⟩
      obtain ⟨c, e, rfl, hc, ho, hce⟩ := hop.cells
      have t8 : H8.get AHeap.empty.next = some (.cells 25 (TM.c5 t)) := by rw [he, AHeap.get_del, if_neg (by omega), f7 _ (by omega)]; exact t6
      have v8 : H8.get H4.next = some (.cells 25 (TM.c5 (atm v))) := by rw [he, AHeap.get_del, if_neg (by omega), f7 _ (by omega)]; exact g6
      have m8 := AHeap.get_lt t8
      have m8' := AHeap.get_lt v8
      clear he
      obtain ⟨H9, hH9, g9', n9, f9⟩ := psh H8 (.cells 25 z25)
      have s9 := store_all (n := 5) g9' (new := c) hc ho rfl
      obtain ⟨HA, hHA, gA, nA, fA⟩ := upd g9' (.cells 25 c)
      have tA : HA.get AHeap.empty.next = some (.cells 25 (TM.c5 t)) := by rw [fA _ (by omega), f9 _ m8]; exact t8
      have vA : HA.get H4.next = some (.cells 25 (TM.c5 (atm v))) := by rw [fA _ (by omega), f9 _ m8']; exact v8
      have ltA := load_cell tA (o := 3) (v := .str t.s) rfl
      have lvA := load_cell vA (o := 3) (v := .str v) rfl
      have iy0 : ([.agg c, .int .i64 e] : List AVal)[0]? = some (.agg c) := rfl
      have iy1 : ([.agg c, .int .i64 e] : List AVal)[1]? = some (.int .i64 e) := rfl
      simp -dsimp only [SZ, EZ, astep, aun, AVal.cells, seval, iy0, iy1, ← hz, ← hH9, s9, ← hHA]
      rcases hce with ⟨rfl, y, oy, ⟨_, rfl⟩, rfl⟩ | ⟨⟨rfl, hno⟩, rfl⟩
      · have lyA := load_cell gA (o := 3) (v := .str t.s) (by rw [← hvv]; rfl)
        have d1 : abin .neq (.int .i64 0) (.int .i64 0) = some (.bool false) := rfl
        have d2 : abin .eql (.str v) (.str t.s) = some (.bool false) := by rw [eql_strs]; simp [hvt]
        have d3 := neq_str t.s
        refine DR.go rfl ?_
        simp -dsimp only [SZ, EZ, astep, aun, AVal.cells, seval, d1, lvA, ltA, d2, lyA, d3]
        refine DR.ne rfl rfl ?_
        refine DR.only [1] ?_
        exact tail5 ok hr tA
      · exact absurd ⟨rfl, hvb⟩ hno
    cases b1 with
    | true =>
      refine DR.go rfl ?_
      simp -dsimp only [SZ, EZ, astep, aun, AVal.cells, seval, lk, c1, ls, hb1]
      exact go
    | false =>
      refine DR.go rfl ?_
      simp -dsimp only [SZ, EZ, astep, aun, AVal.cells, seval, lk, c1, ls, hb1, c3 rfl]
      exact go
  · obtain ⟨b1, hb1⟩ : ∃ b, abin .eql (.int .i64 t.k) (.int .i64 3) = some (.bool b) := ⟨_, rfl⟩
    have go : DR Tryz.prog (kof k5) 77 [.code (.seq (.seq (.region false r5_7 [1, 3, 4, 35]) (.cond (.t 35) (.seq (.region false r5_8 [1, 3, 4, 6, 7]) (.seq (.region false r5_9 [1, 61]) (.cond (.t 61) (.seq (.region false r5_10 [2]) .ret) .skip))) (.seq (.region false r5_11 [1, 63]) (.cond (.t 63) (.seq (.region false r5_12 [2]) .ret) .skip)))) (.seq (.region false r5_13 [1, 9]) (.seq (.region false r5_14 [2]) .ret)))] [(1, .ptr AHeap.empty.next 0), (3, .ptr H4.next 0), (4, .int .i64 13), (5, .bool false)] H6 fun T' H' => ∃ r, aresult H' T' [.tmp 2] = some r ∧ r = .bool true := by
      refine DR.go rfl ?_
      simp -dsimp only [SZ, EZ, astep, aun, AVal.cells, seval]
      refine DR.ne rfl rfl ?_
      have c5 : abin .neq (.int .i64 13) (.int .i64 13) = some (.bool false) := rfl
      refine DR.go rfl ?_
      simp -dsimp only [SZ, EZ, astep, aun, AVal.cells, seval, c5]
      refine DR.ne rfl rfl ?_
      refine DR.only [1] ?_
      exact tail5 ok hr t6
    cases b1 with
    | false =>
      refine DR.go rfl ?_
      simp -dsimp only [SZ, EZ, astep, aun, AVal.cells, seval, lk, hb1]
      exact go
    | true =>
      have hk3 : t.k = 3 := by have : some (AVal.bool (t.k == 3)) = some (.bool true) := hb1; simpa using this
      have n1 : abin .eql (.str t.s) (.str sTrue) = some (.bool false) := by rw [eql_strs]; simp; exact fun h => hk ⟨hk3, .inl h⟩
      have n2 : abin .eql (.str t.s) (.str sFalse) = some (.bool false) := by rw [eql_strs]; simp; exact fun h => hk ⟨hk3, .inr h⟩
      refine DR.go rfl ?_
      simp -dsimp only [SZ, EZ, astep, aun, AVal.cells, seval, lk, hb1, ls, n1, n2]
      exact go
end Go.Am.Rl
