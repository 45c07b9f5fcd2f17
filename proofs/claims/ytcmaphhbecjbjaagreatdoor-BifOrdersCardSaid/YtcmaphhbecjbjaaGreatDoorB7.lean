/- The document's look at a term: measure, all, Check, Right; the law's Few. -/
import Derived.Test.YtcmaphhbecjbjaaGreatDoorB6
set_option linter.unusedVariables false
set_option linter.unusedSimpArgs false
set_option maxRecDepth 20000
namespace Go.Am.Rl
open Go.Proofs

abbrev TM.c5 (t : TM) : List AVal := [.int .i64 t.k, .int .i64 t.n, .flt .f64 t.f, .str t.s, t.row]
theorem TM.pures2 (t : TM) (d m : Int) : AVal.pures [t.agg, .int .i64 d, .int .i64 m] = true := by
  have := TM.pures1 t
  simp only [AVal.pures, Bool.and_true] at this ⊢
  rw [this]; rfl

theorem g52 : ∀ t : TM, t.ok → ∀ (d m : Int) (H : AHeap), DCall Tryz.prog 62 [t.agg, .int .i64 d, .int .i64 m] H fun r H' => (∃ n, r = .int .i64 n) ∧ H' = H := by
  refine TM.all fun t ih ok d m H => ?_
  have h : DCall Tryz.prog 62 [t.agg, .int .i64 d, .int .i64 m] AHeap.empty fun r H' => ∃ n, r = .int .i64 n ∧ True := by
    obtain ⟨H1, hH1, g1, n1, f1⟩ := psh AHeap.empty (.cells 25 (TM.c5 t))
    have la := load_all (n := 5) g1 rfl
    refine DCall.of_body (fn := Tryz.f62) (by kernel_rfl) c62 (by kernel_rfl) (by simp [f62]) ?_
    unfold f62
    simp only []
    refine DR.go rfl ?_
    simp -dsimp only [SZ, EZ, astep, aun, AVal.cells, seval, ← hH1]
    obtain ⟨b1, hb1⟩ := bcmp .lss .i64 d 1 rfl
    cases b1 with
    | true =>
      refine DR.go rfl ?_
      simp -dsimp only [SZ, EZ, astep, aun, AVal.cells, seval, hb1]
      refine DR.ye rfl rfl ?_
      refine DR.go rfl ?_
      simp -dsimp only [SZ, EZ, astep, aun, AVal.cells, seval]
      refine DR.nm rfl ?_
      exact DR.ret ⟨_, by simp [aresult, ares, Env.get] <;> rfl, ⟨_, rfl, trivial⟩⟩
    | false =>
      refine DR.go rfl ?_
      simp -dsimp only [SZ, EZ, astep, aun, AVal.cells, seval, hb1, la]
      refine (g85 t H1).mono ?_
      rintro r H' ⟨⟨n0, rfl⟩, rfl⟩
      obtain ⟨b2, hb2⟩ := bcmp .gtr .i64 n0 m rfl
      simp -dsimp only [SZ, EZ, astep, aun, AVal.cells, seval, hb2]
      cases b2 with
      | true =>
        refine DR.ye rfl rfl ?_
        refine DR.go rfl ?_
        simp -dsimp only [SZ, EZ, astep, aun, AVal.cells, seval]
        refine DR.nm rfl ?_
        exact DR.ret ⟨_, by simp [aresult, ares, Env.get] <;> rfl, ⟨_, rfl, trivial⟩⟩
      | false =>
        refine DR.ne rfl rfl ?_
        refine DR.go rfl ?_
        simp -dsimp only [SZ, EZ, astep, aun, AVal.cells, seval, la]
        refine (g85 t H').mono ?_
        rintro r H2 ⟨⟨m1, rfl⟩, rfl⟩
        simp -dsimp only [SZ, EZ, astep, aun, AVal.cells, seval]
        refine DR.go rfl ?_
        simp -dsimp only [SZ, EZ, astep, aun, AVal.cells, seval]
        refine DR.nm rfl ?_
        refine DR.loop ?_
        refine loop52 ok ih g1 d m rfl (fun c => ?_) (fun T hT => ⟨_, by simp [aresult, ares, hT] <;> rfl, _, rfl, trivial⟩) t.l.length 0 m1 (by omega)
        refine DR.go rfl ?_
        simp -dsimp only [SZ, EZ, astep, aun, AVal.cells, seval]
        refine DR.nm rfl ?_
        exact DR.ret ⟨_, by simp [aresult, ares, Env.get] <;> rfl, ⟨_, rfl, trivial⟩⟩
  exact (DCall.ints (TM.pures2 t d m) h H).mono fun r H' ⟨⟨n, h1, _⟩, h2⟩ => ⟨⟨n, h1⟩, h2⟩

section
variable {t : TM} {H : AHeap} {id : Nat} {k k' : List AItem} {Q : Env → AHeap → Prop}
theorem loop17 (ok : t.ok) (ih : ∀ x ∈ t.l, x.ok → ∀ d m H, DCall Tryz.prog 19 [x.agg, .int .i64 d, .int .i64 m] H fun r H' => (∃ n, r = .int .i64 n) ∧ H' = H)
    (g : H.get id = some (.cells 25 (TM.c5 t))) (d : Int) (hk : aexitTo 0 k = some k') (hend : ∀ c : Int, DR Tryz.prog (kof k19) 37 k' [(1, .int .i64 c)] H Q) :
    ∀ (e i : Nat) (c : Int), i + e = t.l.length → DR Tryz.prog (kof k19) 37 (.code l19_0 :: .inLoop l19_0 :: k) [(1, .int .i64 c), (2, .int .i64 d), (3, .ptr id 0), (7, .int .i64 (i : Nat))] H Q := by
  intro e
  have l4 := load_cell g (o := 4) (v := t.row) rfl
  have hl := TM.lenT ok H
  induction e with
  | zero =>
    intro i c hi
    have hc : abin .lss (.int .i64 (i : Nat)) (.int .i64 (t.l.length : Nat)) = some (.bool false) := by simp [abin]; omega
    refine DR.go rfl ?_
    simp -dsimp only [SZ, EZ, astep, aun, AVal.cells, seval, l4, hl, hc]
    refine DR.ne rfl rfl ?_
    refine DR.nm rfl ?_
    refine DR.exit hk ?_
    exact DR.only [1] (hend c)
  | succ e ih2 =>
    intro i c hi
    have hc : abin .lss (.int .i64 (i : Nat)) (.int .i64 (t.l.length : Nat)) = some (.bool true) := by simp [abin]; omega
    have hlt : i < t.l.length := by omega
    have hx : t.l[i]? = some t.l[i] := List.getElem?_eq_getElem hlt
    have hxo := TM.ok_at ok hx
    have ra := TM.row_at ok hx H
    have la := TM.load t.l[i] (TM.flat (t.l.drop (i + 1))) H
    have hle := TM.len_le ok
    have hw : IntKind.i64.wrap ((i : Int) + 1) = ((i + 1 : Nat) : Int) := wrap64 (n := i + 1) (by omega)
    obtain ⟨b, hb⟩ := bcmp .geq .i64 c 0 rfl
    refine DR.go rfl ?_
    simp -dsimp only [SZ, EZ, astep, aun, AVal.cells, seval, l4, hl, hc, hb]
    cases b with
    | false =>
      refine DR.ne rfl rfl ?_
      refine DR.nm rfl ?_
      refine DR.exit hk ?_
      exact DR.only [1] (hend c)
    | true =>
      refine DR.ye rfl rfl ?_
      refine DR.go rfl ?_
      simp -dsimp only [SZ, EZ, astep, aun, AVal.cells, seval, l4, ra, la, abin]
      refine (ih _ (List.getElem_mem hlt) hxo _ _ H).mono ?_
      rintro r H' ⟨⟨n, rfl⟩, rfl⟩
      simp -dsimp only [SZ, EZ, astep, aun, AVal.cells, seval]
      refine DR.go rfl ?_
      simp -dsimp only [SZ, EZ, astep, aun, AVal.cells, seval, hw, abin]
      refine DR.nm rfl ?_
      refine DR.inLoop ?_
      exact ih2 (i + 1) _ (by omega)
theorem loop53 (ok : t.ok) (ih : ∀ x ∈ t.l, x.ok → ∀ H, DCall Tryz.prog 63 [x.agg] H fun r H' => (∃ b, r = .bool b) ∧ H' = H)
    (g : H.get id = some (.cells 25 (TM.c5 t))) (hk : aexitTo 0 k = some k') (hend : DR Tryz.prog (kof k63) 21 k' [] H Q) (hret : ∀ T, T.get 2 = some (.bool false) → Q T H) :
    ∀ (e i : Nat), i + e = t.l.length → DR Tryz.prog (kof k63) 21 (.code l63_0 :: .inLoop l63_0 :: k) [(1, .ptr id 0), (3, .int .i64 (i : Nat))] H Q := by
  intro e
  have l4 := load_cell g (o := 4) (v := t.row) rfl
  have hl := TM.lenT ok H
  induction e with
  | zero =>
    intro i hi
    have hc : abin .lss (.int .i64 (i : Nat)) (.int .i64 (t.l.length : Nat)) = some (.bool false) := by simp [abin]; omega
    refine DR.go rfl ?_
    simp -dsimp only [SZ, EZ, astep, aun, AVal.cells, seval, l4, hl, hc]
    refine DR.ne rfl rfl ?_
    refine DR.nm rfl ?_
    refine DR.exit hk ?_
    exact DR.only [] hend
  | succ e ih2 =>
    intro i hi
    have hc : abin .lss (.int .i64 (i : Nat)) (.int .i64 (t.l.length : Nat)) = some (.bool true) := by simp [abin]; omega
    have hlt : i < t.l.length := by omega
    have hx : t.l[i]? = some t.l[i] := List.getElem?_eq_getElem hlt
    have hxo := TM.ok_at ok hx
    have ra := TM.row_at ok hx H
    have la := TM.load t.l[i] (TM.flat (t.l.drop (i + 1))) H
    have hle := TM.len_le ok
    have hw : IntKind.i64.wrap ((i : Int) + 1) = ((i + 1 : Nat) : Int) := wrap64 (n := i + 1) (by omega)
    refine DR.go rfl ?_
    simp -dsimp only [SZ, EZ, astep, aun, AVal.cells, seval, l4, hl, hc]
    refine DR.ye rfl rfl ?_
    refine DR.go rfl ?_
    simp -dsimp only [SZ, EZ, astep, aun, AVal.cells, seval, l4, ra, la, abin]
    refine (ih _ (List.getElem_mem hlt) hxo H).mono ?_
    rintro r H' ⟨⟨b, rfl⟩, rfl⟩
    simp -dsimp only [SZ, EZ, astep, aun, AVal.cells, seval]
    cases b with
    | false =>
      refine DR.ye rfl rfl ?_
      refine DR.go rfl ?_
      simp -dsimp only [SZ, EZ, astep, aun, AVal.cells, seval]
      refine DR.nm rfl ?_
      exact DR.ret (hret _ rfl)
    | true =>
      refine DR.ne rfl rfl ?_
      refine DR.go rfl ?_
      simp -dsimp only [SZ, EZ, astep, aun, AVal.cells, seval, hw, abin]
      refine DR.nm rfl ?_
      refine DR.inLoop ?_
      exact ih2 (i + 1) (by omega)
end
theorem g17 : ∀ t : TM, t.ok → ∀ (d m : Int) (H : AHeap), DCall Tryz.prog 19 [t.agg, .int .i64 d, .int .i64 m] H fun r H' => (∃ n, r = .int .i64 n) ∧ H' = H := by
  refine TM.all fun t ih ok d m H => ?_
  have h : DCall Tryz.prog 19 [t.agg, .int .i64 d, .int .i64 m] AHeap.empty fun r H' => ∃ n, r = .int .i64 n ∧ True := by
    obtain ⟨H1, hH1, g1, n1, f1⟩ := psh AHeap.empty (.cells 25 (TM.c5 t))
    refine DCall.of_body (fn := Tryz.f19) (by kernel_rfl) c19 (by kernel_rfl) (by simp [f19]) ?_
    unfold f19
    simp only []
    refine DR.go rfl ?_
    simp -dsimp only [SZ, EZ, astep, aun, AVal.cells, seval, ← hH1]
    obtain ⟨b1, hb1⟩ := bcmp .lss .i64 d 0 rfl
    obtain ⟨b2, hb2⟩ := bcmp .lss .i64 m 0 rfl
    cases b1 with
    | true =>
      refine DR.go rfl ?_
      simp -dsimp only [SZ, EZ, astep, aun, AVal.cells, seval, hb1]
      refine DR.ye rfl rfl ?_
      refine DR.go rfl ?_
      simp -dsimp only [SZ, EZ, astep, aun, AVal.cells, seval]
      refine DR.nm rfl ?_
      exact DR.ret ⟨_, by simp [aresult, ares, Env.get] <;> rfl, ⟨_, rfl, trivial⟩⟩
    | false =>
      refine DR.go rfl ?_
      simp -dsimp only [SZ, EZ, astep, aun, AVal.cells, seval, hb1, hb2]
      cases b2 with
      | true =>
        refine DR.ye rfl rfl ?_
        refine DR.go rfl ?_
        simp -dsimp only [SZ, EZ, astep, aun, AVal.cells, seval]
        refine DR.nm rfl ?_
        exact DR.ret ⟨_, by simp [aresult, ares, Env.get] <;> rfl, ⟨_, rfl, trivial⟩⟩
      | false =>
        refine DR.ne rfl rfl ?_
        refine DR.go rfl ?_
        simp -dsimp only [SZ, EZ, astep, aun, AVal.cells, seval, abin]
        refine DR.go rfl ?_
        simp -dsimp only [SZ, EZ, astep, aun, AVal.cells, seval]
        refine DR.nm rfl ?_
        refine DR.loop ?_
        refine loop17 ok ih g1 m rfl (fun c => ?_) t.l.length 0 _ (by omega)
        refine DR.go rfl ?_
        simp -dsimp only [SZ, EZ, astep, aun, AVal.cells, seval]
        refine DR.nm rfl ?_
        exact DR.ret ⟨_, by simp [aresult, ares, Env.get] <;> rfl, ⟨_, rfl, trivial⟩⟩
  exact (DCall.ints (TM.pures2 t d m) h H).mono fun r H' ⟨⟨n, h1, _⟩, h2⟩ => ⟨⟨n, h1⟩, h2⟩

/-- Of a kind. -/
def TM.kind (t : TM) : Prop := 1 ≤ t.k ∧ t.k ≤ 8
theorem g86 (t : TM) (H : AHeap) : DCall Tryz.prog 101 [t.agg] H fun r H' => (∃ b, r = .bool b ∧ (b = true → TM.kind t)) ∧ H' = H := by
  refine DCall.bools (TM.pures1 t) ?_ H
  have good : ∀ {r : AVal}, isB r = true → TM.kind t → ∃ b, r = .bool b ∧ (b = true → TM.kind t) := fun e hk => by obtain ⟨b, hb⟩ := isB_ex e; exact ⟨b, hb, fun _ => hk⟩
  have bad : ∀ {r : AVal}, r.eqb (.bool false) = true → ∃ b, r = .bool b ∧ (b = true → TM.kind t) := fun e => ⟨false, AVal.eqb_eq _ _ e, fun h => by cases h⟩
  cases t with
  | mk k n f s nl l =>
    cases nl with
    | true =>
      match k with
      | .ofNat 0 => exact (runR_sound (e86a8 n f s)).mono fun r H' e => bad e
      | .ofNat 1 => exact (runR_sound (e86a0 n f s)).mono fun r H' e => good e ⟨by show (1 : Int) ≤ 1; decide, by show (1 : Int) ≤ 8; decide⟩
      | .ofNat 2 => exact (runR_sound (e86a1 n f s)).mono fun r H' e => good e ⟨by show (1 : Int) ≤ 2; decide, by show (2 : Int) ≤ 8; decide⟩
      | .ofNat 3 => exact (runR_sound (e86a2 n f s)).mono fun r H' e => good e ⟨by show (1 : Int) ≤ 3; decide, by show (3 : Int) ≤ 8; decide⟩
      | .ofNat 4 => exact (runR_sound (e86a3 n f s)).mono fun r H' e => good e ⟨by show (1 : Int) ≤ 4; decide, by show (4 : Int) ≤ 8; decide⟩
      | .ofNat 5 => exact (runR_sound (e86a4 n f s)).mono fun r H' e => good e ⟨by show (1 : Int) ≤ 5; decide, by show (5 : Int) ≤ 8; decide⟩
      | .ofNat 6 => exact (runR_sound (e86a5 n f s)).mono fun r H' e => good e ⟨by show (1 : Int) ≤ 6; decide, by show (6 : Int) ≤ 8; decide⟩
      | .ofNat 7 => exact (runR_sound (e86a6 n f s)).mono fun r H' e => good e ⟨by show (1 : Int) ≤ 7; decide, by show (7 : Int) ≤ 8; decide⟩
      | .ofNat 8 => exact (runR_sound (e86a7 n f s)).mono fun r H' e => good e ⟨by show (1 : Int) ≤ 8; decide, by show (8 : Int) ≤ 8; decide⟩
      | .ofNat (m0 + 9) => exact (runR_sound (e86a9 m0 n f s)).mono fun r H' e => bad e
      | .negSucc m0 => exact (runR_sound (e86a10 m0 n f s)).mono fun r H' e => bad e
    | false =>
      match k with
      | .ofNat 0 => exact (runR_sound (e86b8 n f s (TM.flat l) l.length)).mono fun r H' e => bad e
      | .ofNat 1 => exact (runR_sound (e86b0 n f s (TM.flat l) l.length)).mono fun r H' e => good e ⟨by show (1 : Int) ≤ 1; decide, by show (1 : Int) ≤ 8; decide⟩
      | .ofNat 2 => exact (runR_sound (e86b1 n f s (TM.flat l) l.length)).mono fun r H' e => good e ⟨by show (1 : Int) ≤ 2; decide, by show (2 : Int) ≤ 8; decide⟩
      | .ofNat 3 => exact (runR_sound (e86b2 n f s (TM.flat l) l.length)).mono fun r H' e => good e ⟨by show (1 : Int) ≤ 3; decide, by show (3 : Int) ≤ 8; decide⟩
      | .ofNat 4 => exact (runR_sound (e86b3 n f s (TM.flat l) l.length)).mono fun r H' e => good e ⟨by show (1 : Int) ≤ 4; decide, by show (4 : Int) ≤ 8; decide⟩
      | .ofNat 5 => exact (runR_sound (e86b4 n f s (TM.flat l) l.length)).mono fun r H' e => good e ⟨by show (1 : Int) ≤ 5; decide, by show (5 : Int) ≤ 8; decide⟩
      | .ofNat 6 => exact (runR_sound (e86b5 n f s (TM.flat l) l.length)).mono fun r H' e => good e ⟨by show (1 : Int) ≤ 6; decide, by show (6 : Int) ≤ 8; decide⟩
      | .ofNat 7 => exact (runR_sound (e86b6 n f s (TM.flat l) l.length)).mono fun r H' e => good e ⟨by show (1 : Int) ≤ 7; decide, by show (7 : Int) ≤ 8; decide⟩
      | .ofNat 8 => exact (runR_sound (e86b7 n f s (TM.flat l) l.length)).mono fun r H' e => good e ⟨by show (1 : Int) ≤ 8; decide, by show (8 : Int) ≤ 8; decide⟩
      | .ofNat (m0 + 9) => exact (runR_sound (e86b9 m0 n f s (TM.flat l) l.length)).mono fun r H' e => bad e
      | .negSucc m0 => exact (runR_sound (e86b10 m0 n f s (TM.flat l) l.length)).mono fun r H' e => bad e

theorem g53 : ∀ t : TM, t.ok → ∀ H : AHeap, DCall Tryz.prog 63 [t.agg] H fun r H' => (∃ b, r = .bool b ∧ (b = true → TM.kind t)) ∧ H' = H := by
  refine TM.all fun t ih ok H => ?_
  refine DCall.bools (TM.pures1 t) ?_ H
  obtain ⟨H1, hH1, g1, n1, f1⟩ := psh AHeap.empty (.cells 25 (TM.c5 t))
  have la := load_all (n := 5) g1 rfl
  refine DCall.of_body (fn := Tryz.f63) (by kernel_rfl) c63 (by kernel_rfl) (by simp [f63]) ?_
  unfold f63
  simp only []
  refine DR.go rfl ?_
  simp -dsimp only [SZ, EZ, astep, aun, AVal.cells, seval, ← hH1]
  refine DR.go rfl ?_
  simp -dsimp only [SZ, EZ, astep, aun, AVal.cells, seval, la]
  refine (g86 t H1).mono ?_
  rintro r H' ⟨⟨b, rfl, hb⟩, rfl⟩
  simp -dsimp only [SZ, EZ, astep, aun, AVal.cells, seval]
  cases b with
  | false =>
    refine DR.ye rfl rfl ?_
    refine DR.go rfl ?_
    simp -dsimp only [SZ, EZ, astep, aun, AVal.cells, seval]
    refine DR.nm rfl ?_
    exact DR.ret ⟨_, by simp [aresult, ares, Env.get] <;> rfl, ⟨_, rfl, fun h => by cases h⟩⟩
  | true =>
    refine DR.ne rfl rfl ?_
    refine DR.go rfl ?_
    simp -dsimp only [SZ, EZ, astep, aun, AVal.cells, seval]
    refine DR.nm rfl ?_
    refine DR.loop ?_
    refine loop53 ok (fun x hx hxo H => (ih x hx hxo H).mono fun r H' ⟨⟨b, h, _⟩, e⟩ => ⟨⟨b, h⟩, e⟩) g1 rfl ?_ (fun T hT => ⟨_, by simp [aresult, ares, hT] <;> rfl, _, rfl, fun h => by cases h⟩) t.l.length 0 (by omega)
    refine DR.go rfl ?_
    simp -dsimp only [SZ, EZ, astep, aun, AVal.cells, seval]
    refine DR.nm rfl ?_
    exact DR.ret ⟨_, by simp [aresult, ares, Env.get] <;> rfl, ⟨_, rfl, fun _ => hb rfl⟩⟩
theorem g26 (t : TM) (ok : t.ok) (H : AHeap) : DCall Tryz.prog 31 [t.agg] H fun r H' => (∃ n, r = .int .i64 n ∧ (n = 0 → TM.kind t)) ∧ H' = H := by
  refine DCall.ints (TM.pures1 t) ?_ H
  obtain ⟨H1, hH1, g1, n1, f1⟩ := psh AHeap.empty (.cells 25 (TM.c5 t))
  have la := load_all (n := 5) g1 rfl
  refine DCall.of_body (fn := Tryz.f31) (by kernel_rfl) c31 (by kernel_rfl) (by simp [f31]) ?_
  unfold f31
  simp only []
  refine DR.go rfl ?_
  simp -dsimp only [SZ, EZ, astep, aun, AVal.cells, seval, ← hH1]
  refine DR.go rfl ?_
  simp -dsimp only [SZ, EZ, astep, aun, AVal.cells, seval, la]
  refine (g52 t ok _ _ H1).mono ?_
  rintro r H' ⟨⟨n, rfl⟩, rfl⟩
  obtain ⟨b, hb⟩ := bcmp .lss .i64 n 0 rfl
  simp -dsimp only [SZ, EZ, astep, aun, AVal.cells, seval, hb]
  cases b with
  | true =>
    refine DR.ye rfl rfl ?_
    refine DR.go rfl ?_
    simp -dsimp only [SZ, EZ, astep, aun, AVal.cells, seval]
    refine DR.nm rfl ?_
    exact DR.ret ⟨_, by simp [aresult, ares, Env.get] <;> rfl, ⟨_, rfl, fun h => by cases h⟩⟩
  | false =>
    refine DR.ne rfl rfl ?_
    refine DR.go rfl ?_
    simp -dsimp only [SZ, EZ, astep, aun, AVal.cells, seval, la]
    refine (g53 t ok H').mono ?_
    rintro r H2 ⟨⟨b, rfl, hb⟩, rfl⟩
    simp -dsimp only [SZ, EZ, astep, aun, AVal.cells, seval]
    cases b with
    | false =>
      refine DR.ye rfl rfl ?_
      refine DR.go rfl ?_
      simp -dsimp only [SZ, EZ, astep, aun, AVal.cells, seval]
      refine DR.nm rfl ?_
      exact DR.ret ⟨_, by simp [aresult, ares, Env.get] <;> rfl, ⟨_, rfl, fun h => by cases h⟩⟩
    | true =>
      refine DR.ne rfl rfl ?_
      refine DR.go rfl ?_
      simp -dsimp only [SZ, EZ, astep, aun, AVal.cells, seval]
      refine DR.nm rfl ?_
      exact DR.ret ⟨_, by simp [aresult, ares, Env.get] <;> rfl, ⟨_, rfl, fun _ => hb rfl⟩⟩
theorem g18 (t : TM) (ok : t.ok) (H : AHeap) : DCall Tryz.prog 20 [t.agg] H fun r H' => (∃ b, r = .bool b ∧ (b = true → TM.kind t)) ∧ H' = H := by
  refine DCall.bools (TM.pures1 t) ?_ H
  obtain ⟨H1, hH1, g1, n1, f1⟩ := psh AHeap.empty (.cells 25 (TM.c5 t))
  have la := load_all (n := 5) g1 rfl
  refine DCall.of_body (fn := Tryz.f20) (by kernel_rfl) c20 (by kernel_rfl) (by simp [f20]) ?_
  unfold f20
  simp only []
  refine DR.go rfl ?_
  simp -dsimp only [SZ, EZ, astep, aun, AVal.cells, seval, ← hH1]
  refine DR.go rfl ?_
  simp -dsimp only [SZ, EZ, astep, aun, AVal.cells, seval, la]
  refine (g26 t ok H1).mono ?_
  rintro r H' ⟨⟨n, rfl, hn⟩, rfl⟩
  simp -dsimp only [SZ, EZ, astep, aun, AVal.cells, seval, abin]
  refine DR.nm rfl ?_
  exact DR.ret ⟨_, by simp [aresult, ares, Env.get] <;> rfl, ⟨_, rfl, fun h => hn (by simpa using h)⟩⟩
end Go.Am.Rl

