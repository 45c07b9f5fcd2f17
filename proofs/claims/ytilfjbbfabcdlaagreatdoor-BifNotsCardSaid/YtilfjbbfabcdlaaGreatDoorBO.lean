/- Parts: B22, B23, B24, B25. -/
import Derived.Test.YtilfjbbfabcdlaaGreatDoorBN
import Derived.Test.YtilfjbbfabcdlaaGreatDoorAmS
import Derived.Test.YtilfjbbfabcdlaaGreatDoorBF
set_option linter.unusedVariables false
set_option linter.unusedSimpArgs false
set_option maxRecDepth 20000
/- A tuple made of terms. -/
namespace Go.Am.Rl
open Go.Proofs

/-- A tuple. -/
abbrev tup7 (nl : Bool) (l : List TM) : TM := .mk 7 0 0 ⟨#[]⟩ nl l
theorem tup7_ok {nl : Bool} {l : List TM} (h : TM.oks l) (hl : l.length ≤ 2 ^ 41) (hn : nl = true → l = []) : (tup7 nl l).ok := ⟨by kernel_rfl, by kernel_rfl, by kernel_rfl, Nat.zero_le _, hl, hn, h⟩
/-- What 'made' tells. -/
def Made (l : List TM) (r : AVal) : Prop := r = .tup [(norm (tup7 false l)).agg, .int .i64 0] ∨ ∃ e, e ≠ 0 ∧ r = .tup [.agg z25, .int .i64 e]
theorem Made.pure {l : List TM} {r : AVal} (h : Made l r) : r.pure = true := by
  rcases h with rfl | ⟨e, _, rfl⟩
  · have := TM.pures1 (norm (tup7 false l))
    simp only [AVal.pures, AVal.pure, Bool.and_true] at this ⊢
    exact this
  · rfl
section
variable {u : TM} {H0 : AHeap} {rid : Nat} {k k' : List AItem} {Q : Env → AHeap → Prop}
theorem loop100 (ok : u.ok) (hk : aexitTo 0 k = some k') (hend : ∀ H, H.get rid = some (.cells 25 z25) → DR Tryz.prog (kof k100) 32 k' [(0, .int .i64 7), (1, u.row), (4, .ptr rid 0)] H Q)
    (hret : ∀ T H e, e ≠ 0 → T.get 4 = some (.ptr rid 0) → T.get 5 = some (.int .i64 e) → aload H (some 5) (.ptr rid 0) = some (.agg z25) → Q T H) :
    ∀ (e i : Nat) (H : AHeap), i + e = u.l.length → H.get rid = some (.cells 25 z25) → DR Tryz.prog (kof k100) 32 (.code l100_0 :: .inLoop l100_0 :: k) [(0, .int .i64 7), (1, u.row), (4, .ptr rid 0), (10, u.row), (11, .int .i64 (u.l.length : Nat)), (12, .int .i64 (i : Nat))] H Q := by
  intro e
  induction e with
  | zero =>
    intro i H hi hH
    have hc : abin .lss (.int .i64 (i : Nat)) (.int .i64 (u.l.length : Nat)) = some (.bool false) := by simp [abin]; omega
    refine DR.go rfl ?_
    simp -dsimp only [SZ, EZ, astep, aun, AVal.cells, seval, hc]
    refine DR.ne rfl rfl ?_
    refine DR.nm rfl ?_
    refine DR.exit hk ?_
    exact DR.only [0, 1, 4] (hend H hH)
  | succ e ih2 =>
    intro i H hi hH
    have hc : abin .lss (.int .i64 (i : Nat)) (.int .i64 (u.l.length : Nat)) = some (.bool true) := by simp [abin]; omega
    have hlt : i < u.l.length := by omega
    have hx : u.l[i]? = some u.l[i] := List.getElem?_eq_getElem hlt
    have hxo := TM.ok_at ok hx
    have ra := TM.row_at ok hx H
    have la := TM.load u.l[i] (TM.flat (u.l.drop (i + 1))) H
    have hle := TM.len_le ok
    have hw : IntKind.i64.wrap ((i : Int) + 1) = ((i + 1 : Nat) : Int) := wrap64 (n := i + 1) (by omega)
    obtain ⟨H1, hH1, g1, n1, f1⟩ := psh H (.cells 25 [.int .i64 0, .int .i64 0, .flt .f64 0, .str ⟨#[]⟩, .nils])
    have st : astore H1 5 (.ptr H.next 0) (AVal.agg (TM.c5 u.l[i])) = some (H1.set H.next (.cells 25 (TM.c5 u.l[i]))) := store_all (n := 5) (new := TM.c5 u.l[i]) g1 rfl (TM.ones5 _) rfl
    obtain ⟨H2, hH2, g2, n2, f2⟩ := upd g1 (.cells 25 (TM.c5 u.l[i]))
    have l2 := load_all (n := 5) g2 rfl
    have hr2 : H2.get rid = some (.cells 25 z25) := by
      have := AHeap.get_lt hH
      rw [f2 rid (by omega), f1 rid this]; exact hH
    refine DR.go rfl ?_
    simp -dsimp only [SZ, EZ, astep, aun, AVal.cells, seval, hc]
    refine DR.ye rfl rfl ?_
    refine DR.go rfl ?_
    simp -dsimp only [SZ, EZ, astep, aun, AVal.cells, seval, ra, la, ← hH1, st, ← hH2]
    refine DR.go rfl ?_
    simp -dsimp only [SZ, EZ, astep, aun, AVal.cells, seval, l2]
    refine (g87 _ hxo H2).mono ?_
    rintro r H' ⟨⟨er, rfl⟩, he⟩
    obtain rfl := he.symm
    simp -dsimp only [SZ, EZ, astep, aun, AVal.cells, seval]
    by_cases h0 : er = 0
    · have c0 : abin .neq (.int .i64 er) (.int .i64 0) = some (.bool false) := by rw [h0]; exact neq_int _ _
      refine DR.go rfl ?_
      simp -dsimp only [SZ, EZ, astep, aun, AVal.cells, seval, c0]
      refine DR.ne rfl rfl ?_
      refine DR.go rfl ?_
      simp -dsimp only [SZ, EZ, astep, aun, AVal.cells, seval, hw, abin]
      refine DR.nm rfl ?_
      refine DR.inLoop ?_
      exact ih2 (i + 1) H2 (by omega) hr2
    · have c0 : abin .neq (.int .i64 er) (.int .i64 0) = some (.bool true) := by simp [abin, h0]
      have s3 := store_all (n := 5) hr2 (new := z25) rfl rfl rfl
      obtain ⟨H3, hH3, g3, n3, f3⟩ := upd hr2 (.cells 25 z25)
      have hz : z25 = [.int .i64 0, .int .i64 0, .flt .f64 0, .str ⟨#[]⟩, .nils] := rfl
      refine DR.go rfl ?_
      simp -dsimp only [SZ, EZ, astep, aun, AVal.cells, seval, c0]
      refine DR.ye rfl rfl ?_
      refine DR.go rfl ?_
      simp -dsimp only [SZ, EZ, astep, aun, AVal.cells, seval, Env.parts, afill, ← hz, s3, ← hH3]
      refine DR.nm rfl ?_
      exact DR.ret (hret _ H3 er h0 rfl rfl (load_all (n := 5) g3 rfl))
end
theorem g100 {l : List TM} (ok : (TM.of false l).ok) (H : AHeap) : DCall Tryz.prog 100 [.int .i64 7, (TM.of false l).row] H fun r H' => Made l r ∧ H' = H := by
  have hp : AVal.pures [.int .i64 7, (TM.of false l).row] = true := by
    have := TM.purer (u := TM.of false l)
    simp only [AVal.pures, Bool.and_true] at this ⊢
    rw [this]; rfl
  have ok7 : (tup7 false l).ok := tup7_ok ok.2.2.2.2.2.2 ok.2.2.2.2.1 (fun h => nomatch h)
  refine DCall.closed (sz := szs) hp (Q := fun r _ => Made l r) (Q' := Made l) ?_ (fun r H1 hr => ⟨SizeOf.sizeOf r + 1, r, freeze_pure _ _ (by omega) hr.pure, hr⟩) H
  obtain ⟨H1, hH1, g1, n1, f1⟩ := psh AHeap.empty (.cells 25 z25)
  have hz : z25 = [.int .i64 0, .int .i64 0, .flt .f64 0, .str ⟨#[]⟩, .nils] := rfl
  have hl := TM.lenT ok H1
  have hfl : afill z25 [(0, 1, .int .i64 7), (4, 1, (TM.of false l).row)] = some (TM.c5 (tup7 false l)) := rfl
  refine DCall.of_body (fn := Tryz.f100) (by kernel_rfl) c100 (by kernel_rfl) (by simp [f100]) ?_
  unfold f100
  simp only []
  refine DR.go rfl ?_
  simp -dsimp only [SZ, EZ, astep, aun, AVal.cells, seval, ← hz, ← hH1]
  refine DR.go rfl ?_
  simp -dsimp only [SZ, EZ, astep, aun, AVal.cells, seval, hl]
  refine DR.nm rfl ?_
  refine DR.loop ?_
  refine loop100 ok rfl (fun H2 g2 => ?_) (fun T H e h0 h4 h5 hla => ⟨.tup [.agg z25, .int .i64 e], by simp [aresult, ares, h4, h5, hla], .inr ⟨e, h0, rfl⟩⟩) (TM.of false l).l.length 0 H1 (by omega) g1
  obtain ⟨H3, hH3, g3, n3, f3⟩ := psh H2 (.cells 25 z25)
  have s3 := store_all (n := 5) g3 (new := TM.c5 (tup7 false l)) rfl (TM.ones5 _) rfl
  obtain ⟨H4, hH4, g4, n4, f4⟩ := upd g3 (.cells 25 (TM.c5 (tup7 false l)))
  have l4 := load_all (n := 5) g4 rfl
  have t4 : H4.get AHeap.empty.next = some (.cells 25 z25) := by
    have := AHeap.get_lt g2
    rw [f4 _ (by omega), f3 _ this]; exact g2
  refine DR.go rfl ?_
  simp -dsimp only [SZ, EZ, astep, aun, AVal.cells, seval, Env.parts, ← hz, hfl, ← hH3, s3, ← hH4]
  refine DR.go rfl ?_
  simp -dsimp only [SZ, EZ, astep, aun, AVal.cells, seval, l4]
  refine (g87 (tup7 false l) ok7 H4).mono ?_
  rintro r H' ⟨⟨er, rfl⟩, he⟩
  obtain rfl := he.symm
  by_cases h0 : er = 0
  · have c0 : abin .neq (.int .i64 er) (.int .i64 0) = some (.bool false) := by rw [h0]; exact neq_int _ _
    have s5 := store_all (n := 5) t4 (new := TM.c5 (norm (tup7 false l))) rfl (TM.ones5 _) rfl
    obtain ⟨H5, hH5, g5, n5, f5⟩ := upd t4 (.cells 25 (TM.c5 (norm (tup7 false l))))
    have l5 := load_all (n := 5) g5 rfl
    simp -dsimp only [SZ, EZ, astep, aun, AVal.cells, seval, c0]
    refine DR.ne rfl rfl ?_
    refine DR.go rfl ?_
    simp -dsimp only [SZ, EZ, astep, aun, AVal.cells, seval, l4]
    refine (g50 (tup7 false l) ok7 H4).mono ?_
    rintro r H' ⟨rfl, he⟩
    obtain rfl := he.symm
    simp -dsimp only [SZ, EZ, astep, aun, AVal.cells, seval, s5, ← hH5]
    refine DR.nm rfl ?_
    exact DR.ret ⟨.tup [(norm (tup7 false l)).agg, .int .i64 0], by simp [aresult, ares, Env.get, l5], .inl rfl⟩
  · have c0 : abin .neq (.int .i64 er) (.int .i64 0) = some (.bool true) := by simp [abin, h0]
    have s5 := store_all (n := 5) t4 (new := z25) rfl rfl rfl
    obtain ⟨H5, hH5, g5, n5, f5⟩ := upd t4 (.cells 25 z25)
    have l5 := load_all (n := 5) g5 rfl
    simp -dsimp only [SZ, EZ, astep, aun, AVal.cells, seval, c0]
    refine DR.ye rfl rfl ?_
    refine DR.go rfl ?_
    simp -dsimp only [SZ, EZ, astep, aun, AVal.cells, seval, Env.parts, afill, ← hz, s5, ← hH5]
    refine DR.nm rfl ?_
    exact DR.ret ⟨.tup [.agg z25, .int .i64 12], by simp [aresult, ares, Env.get, l5], .inr ⟨12, by decide, rfl⟩⟩
end Go.Am.Rl

/- 'setelement': a tuple with a term set in a place, or an error. -/
namespace Go.Am.Rl
open Go.Proofs

theorem g119 {l : List TM} (ok : (TM.of false l).ok) (H : AHeap) : DCall Tryz.prog 119 [(TM.of false l).row] H fun r H' => Made l r ∧ H' = H := by
  refine DCall.closed (sz := szs) (TM.purer (u := TM.of false l)) (Q := fun r _ => Made l r) (Q' := Made l) ?_ (fun r H1 hr => ⟨SizeOf.sizeOf r + 1, r, freeze_pure _ _ (by omega) hr.pure, hr⟩) H
  obtain ⟨H1, hH1, g1, n1, f1⟩ := psh AHeap.empty (.cells 25 z25)
  have hz : z25 = [.int .i64 0, .int .i64 0, .flt .f64 0, .str ⟨#[]⟩, .nils] := rfl
  have fin : ∀ c : List AVal, c.length = 5 → ones c = true → ∃ H2, astore H1 5 (.ptr AHeap.empty.next 0) (.agg c) = some H2 ∧ aload H2 (some 5) (.ptr AHeap.empty.next 0) = some (.agg c) := by
    intro c hc ho
    obtain ⟨H2, hH2, g2, n2, f2⟩ := upd g1 (.cells 25 c)
    exact ⟨H2, by rw [hH2]; exact store_all (n := 5) (new := c) g1 hc ho rfl, load_all (n := 5) g2 hc⟩
  refine DCall.of_body (fn := Tryz.f119) (by kernel_rfl) c119 (by kernel_rfl) (by simp [f119]) ?_
  unfold f119
  simp only []
  refine DR.go rfl ?_
  simp -dsimp only [SZ, EZ, astep, aun, AVal.cells, seval, ← hz, ← hH1]
  refine DR.go rfl ?_
  simp -dsimp only [SZ, EZ, astep, aun, AVal.cells, seval]
  refine (g100 ok H1).mono ?_
  rintro r H' ⟨hr, he⟩
  obtain rfl := he.symm
  rcases hr with rfl | ⟨e, h0, rfl⟩
  · obtain ⟨H2, s1, l1⟩ := fin (TM.c5 (norm (tup7 false l))) rfl (TM.ones5 _)
    have iy0 : ([(norm (tup7 false l)).agg, .int .i64 0] : List AVal)[0]? = some (norm (tup7 false l)).agg := rfl
    have iy1 : ([(norm (tup7 false l)).agg, .int .i64 0] : List AVal)[1]? = some (.int .i64 0) := rfl
    simp -dsimp only [SZ, EZ, astep, aun, AVal.cells, seval, iy0, iy1, s1]
    refine DR.nm rfl ?_
    exact DR.ret ⟨.tup [(norm (tup7 false l)).agg, .int .i64 0], by simp [aresult, ares, Env.get, l1], .inl rfl⟩
  · obtain ⟨H2, s1, l1⟩ := fin z25 rfl rfl
    have iy0 : ([.agg z25, .int .i64 e] : List AVal)[0]? = some (.agg z25) := rfl
    have iy1 : ([.agg z25, .int .i64 e] : List AVal)[1]? = some (.int .i64 e) := rfl
    simp -dsimp only [SZ, EZ, astep, aun, AVal.cells, seval, iy0, iy1, s1]
    refine DR.nm rfl ?_
    exact DR.ret ⟨.tup [.agg z25, .int .i64 e], by simp [aresult, ares, Env.get, l1], .inr ⟨e, h0, rfl⟩⟩
theorem g35 {c : List AVal} {e : Int} (hc : c.length = 5) (ho : ones c = true) {H : AHeap} : DCallX Tryz.prog 35 [.agg c, .int .i64 e] H fun o H' => Gro H H' ∧ ((e = 0 ∧ o = .ret (.agg c)) ∨ (e ≠ 0 ∧ o = .pan (err e))) := by
  obtain ⟨H1, hH1, g1, n1, f1⟩ := psh H (.cells 25 c)
  obtain ⟨H2, hH2, g2, n2, f2⟩ := psh H1 (.cells 25 z25)
  have hz : z25 = [.int .i64 0, .int .i64 0, .flt .f64 0, .str ⟨#[]⟩, .nils] := rfl
  have t1 := (f2 _ (by omega)).trans g1
  have l1 := load_all (n := 5) t1 hc
  have s1 := store_all (n := 5) g2 (new := c) hc ho rfl
  obtain ⟨H3, hH3, g3, n3, f3⟩ := upd g2 (.cells 25 c)
  have l3 := load_all (n := 5) g3 hc
  have b2 : Gro H H2 := ⟨by omega, fun j hj => by rw [f2 j (by omega), f1 j hj]⟩
  refine DCallX.of_body (fn := Tryz.f35) (by kernel_rfl) c35 (by kernel_rfl) (by simp [f35]) ?_
  unfold f35
  simp only []
  refine DRX.go rfl ?_
  simp -dsimp only [XZ, SZ, EZ, astep, aun, AVal.cells, seval, ← hz, ← hH1, ← hH2]
  by_cases h0 : e = 0
  · have c0 : abin .neq (.int .i64 e) (.int .i64 0) = some (.bool false) := by rw [h0]; exact neq_int _ _
    refine DRX.go rfl ?_
    simp -dsimp only [XZ, SZ, EZ, astep, aun, AVal.cells, seval, ← hH2, c0]
    refine DRX.ne rfl rfl ?_
    refine DRX.go rfl ?_
    simp -dsimp only [XZ, SZ, EZ, astep, aun, AVal.cells, seval, l1, s1, ← hH3]
    refine DRX.nm rfl ?_
    exact DRX.ret ⟨.agg c, by simp [aresult, ares, Env.get, l3], ⟨by have := b2.1; omega, fun j hj => by rw [f3 j (by omega), b2.2 j hj]⟩, .inl ⟨h0, rfl⟩⟩
  · have c0 : abin .neq (.int .i64 e) (.int .i64 0) = some (.bool true) := by simp [abin, h0]
    refine DRX.go rfl ?_
    simp -dsimp only [XZ, SZ, EZ, astep, aun, AVal.cells, seval, ← hH2, c0]
    refine DRX.ye rfl rfl ?_
    refine DRX.go rfl ?_
    simp -dsimp only [XZ, SZ, EZ, astep, aun, AVal.cells, seval]
    exact ⟨b2, .inr ⟨h0, rfl⟩⟩
theorem ones_app {a b : List AVal} (ha : ones a = true) (hb : ones b = true) : ones (a ++ b) = true := by
  unfold ones at *
  rw [List.all_append, ha, hb]; rfl
theorem ones_flat : ∀ l : List TM, ones (TM.flat l) = true
  | [] => rfl
  | t :: r => by
    rw [TM.flat, TM.cells_eq]
    exact ones_app (TM.ones5 t) (ones_flat r)
theorem g151 {t : TM} (ok : t.ok) {H : AHeap} : DCall Tryz.prog 151 [t.row] H fun r H' => Gro H H' ∧ (∀ H2, alenT H2 1 r = some t.l.length) ∧ (0 < t.l.length → ∃ id, r = .sl id 0 t.l.length none ∧ H'.get id = some (.cells 25 (TM.flat t.l)) ∧ H.next ≤ id) := by
  have hle := TM.len_le ok
  cases t with
  | mk k n f s nl l =>
    cases nl with
    | true =>
      have hl : l = [] := ok.2.2.2.2.2.1 rfl
      subst hl
      show DCall Tryz.prog 151 [.nils] H _
      refine DCall.of_body (fn := Tryz.f151) (by kernel_rfl) c151 (by kernel_rfl) (by simp [f151]) ?_
      unfold f151
      simp only []
      refine DR.go rfl ?_
      simp -dsimp only [SZ, EZ, astep, aun, AVal.cells, seval]
      refine DR.go rfl ?_
      simp -dsimp only [SZ, EZ, astep, aun, AVal.cells, seval, anil]
      refine DR.ye rfl rfl ?_
      refine DR.go rfl ?_
      simp -dsimp only [SZ, EZ, astep, aun, AVal.cells, seval]
      refine DR.nm rfl ?_
      exact DR.ret ⟨_, by simp [aresult, ares, Env.get] <;> rfl, Gro.refl _, fun _ => rfl, fun h => absurd h (Nat.lt_irrefl 0)⟩
    | false =>
      show DCall Tryz.prog 151 [.ros (TM.flat l) l.length] H _
      obtain ⟨H1, hH1, g1, n1, f1⟩ := psh H (.cells 25 [])
      have hcs : (TM.flat l).length = l.length * 5 := TM.flat_length l
      have hle : l.length ≤ 2 ^ 41 := hle
      by_cases h0 : l.length = 0
      · have ha : aapp 25 5 64 H1 (.sl H.next 0 0 (some 0)) (.ros (TM.flat l) l.length) = some (.sl H.next 0 0 (some 0), H1) := by
          have hl : l = [] := List.length_eq_zero_iff.mp h0
          subst hl
          rfl
        refine DCall.of_body (fn := Tryz.f151) (by kernel_rfl) c151 (by kernel_rfl) (by simp [f151]) ?_
        unfold f151
        simp only []
        refine DR.go rfl ?_
        simp -dsimp only [SZ, EZ, astep, aun, AVal.cells, seval]
        refine DR.go rfl ?_
        simp -dsimp only [SZ, EZ, astep, aun, AVal.cells, seval, anil]
        refine DR.ne rfl rfl ?_
        refine DR.go rfl ?_
        simp -dsimp only [SZ, EZ, astep, aun, AVal.cells, seval, Env.parts, afill, ← hH1, ha]
        refine DR.nm rfl ?_
        exact DR.ret ⟨_, by simp [aresult, ares, Env.get] <;> rfl, ⟨by omega, f1⟩, fun _ => by rw [show (TM.mk k n f s false l).l.length = 0 from h0]; rfl, fun h => absurd h (by rw [show (TM.mk k n f s false l).l.length = 0 from h0]; exact Nat.lt_irrefl 0)⟩
      · obtain ⟨H2, hH2, g2, n2, f2⟩ := psh H1 (.cells 25 (TM.flat l))
        have ha : aapp 25 5 64 H1 (.sl H.next 0 0 (some 0)) (.ros (TM.flat l) l.length) = some (.sl H1.next 0 l.length none, H2) := by
          have hsl : sliceCells H1 5 (.ros (TM.flat l) l.length) = some (TM.flat l) := by
            simp only [sliceCells]
            rw [if_pos (by omega), ← hcs, List.take_length]
          have hno : ¬ (ones (TM.flat l) = false ∨ 5 = 0 ∨ (TM.flat l).length ≠ l.length * 5) := by
            rw [ones_flat, hcs]; simp
          simp only [aapp, Go.Am.alen, hsl, if_neg hno, g1]
          rw [if_neg h0, if_pos ⟨by simp, by omega, by omega, trivial⟩, if_neg (by omega), hH2]
          simp
        refine DCall.of_body (fn := Tryz.f151) (by kernel_rfl) c151 (by kernel_rfl) (by simp [f151]) ?_
        unfold f151
        simp only []
        refine DR.go rfl ?_
        simp -dsimp only [SZ, EZ, astep, aun, AVal.cells, seval]
        refine DR.go rfl ?_
        simp -dsimp only [SZ, EZ, astep, aun, AVal.cells, seval, anil]
        refine DR.ne rfl rfl ?_
        refine DR.go rfl ?_
        simp -dsimp only [SZ, EZ, astep, aun, AVal.cells, seval, Env.parts, afill, ← hH1, ha]
        refine DR.nm rfl ?_
        exact DR.ret ⟨_, by simp [aresult, ares, Env.get] <;> rfl, ⟨by omega, fun j hj => by rw [f2 j (by omega), f1 j hj]⟩, fun _ => rfl, fun _ => ⟨_, rfl, g2, by omega⟩⟩
end Go.Am.Rl

/- 'setelement'. -/
namespace Go.Am.Rl
open Go.Proofs

theorem flat_set : ∀ {l : List TM} {j : Nat} {y : TM}, j < l.length → aput (TM.flat l) (j * 5) (TM.c5 y) = TM.flat (l.set j y)
  | [], j, y, h => by simp at h
  | t :: r, 0, y, h => by
    simp only [List.set_cons_zero, TM.flat, aput, Nat.zero_mul, List.take_zero, List.nil_append, Nat.zero_add]
    rw [show (TM.c5 y).length = t.cells.length from (TM.cells_length t).symm, List.drop_left, TM.cells_eq y]
  | t :: r, j + 1, y, h => by
    have ih := flat_set (l := r) (j := j) (y := y) (by simpa using h)
    simp only [List.set_cons_succ, TM.flat]
    rw [← ih]
    have h5 := TM.cells_length t
    simp only [aput]
    rw [show (j + 1) * 5 = t.cells.length + j * 5 by rw [h5]; omega, List.take_append, List.take_of_length_le (by omega), show t.cells.length + j * 5 - t.cells.length = j * 5 by omega, show t.cells.length + j * 5 + (TM.c5 y).length = t.cells.length + (j * 5 + (TM.c5 y).length) by omega, List.drop_append, List.drop_eq_nil_of_le (by omega), show t.cells.length + (j * 5 + (TM.c5 y).length) - t.cells.length = j * 5 + (TM.c5 y).length by omega]
    simp
theorem oks_set : ∀ {l : List TM} {j : Nat} {y : TM}, TM.oks l → y.ok → TM.oks (l.set j y)
  | [], j, y, h, hy => h
  | t :: r, 0, y, h, hy => ⟨hy, h.2⟩
  | t :: r, j + 1, y, h, hy => ⟨h.1, oks_set h.2 hy⟩
theorem TM.ok_oks {t : TM} (h : t.ok) : TM.oks t.l := by
  cases t with
  | mk k n f s nl l => exact h.2.2.2.2.2.2
theorem norm_ok : ∀ t : TM, t.ok → (norm t).ok := by
  refine TM.all fun t ih ok => ?_
  have hm : ∀ l : List TM, (∀ x ∈ l, (norm x).ok) → TM.oks (norms l) := by
    intro l
    induction l with
    | nil => intro _; trivial
    | cons a r ihl => intro h; exact ⟨h a (List.mem_cons_self ..), ihl fun x hx => h x (List.mem_cons_of_mem _ hx)⟩
  cases t with
  | mk k n f s nl l =>
    refine ⟨ok.1, ok.2.1, ok.2.2.1, ok.2.2.2.1, by rw [norms_map, List.length_map]; exact ok.2.2.2.2.1, fun h => ?_, hm l fun x hx => ih x hx (TM.oks_mem ok.2.2.2.2.2.2 x hx)⟩
    rw [List.isEmpty_iff] at h
    rw [h]; rfl
theorem g116 {u x t y : TM} {cid : Nat} {H : AHeap} (ok : u.ok) (hx : u.l[0]? = some x) (hk : x.k = 1) (ht : u.l[1]? = some t) (hkt : t.k = 7) (hy : u.l[2]? = some y) (g : H.get cid = some (.cells 49 (callC u))) :
    DCallX Tryz.prog 116 [.ptr cid 0] H (Tells H (fun z => ∃ j : Nat, (j : Int) + 1 = x.n ∧ j < t.l.length ∧ z = norm (tup7 false (t.l.set j y))) (fun e => e ≠ 0)) := by
  have okt := TM.ok_at ok ht
  have oky := TM.ok_at ok hy
  have hle := TM.len_le okt
  obtain ⟨H1, hH1, g1, n1, f1⟩ := psh H (.cells 25 z25)
  have hz : z25 = [.int .i64 0, .int .i64 0, .flt .f64 0, .str ⟨#[]⟩, .nils] := rfl
  have t1 := (f1 _ (AHeap.get_lt g)).trans g
  have b1 : Gro H H1 := ⟨by omega, f1⟩
  have hfld : afld 4 none t.agg = some t.row := rfl
  refine DCallX.of_body (fn := Tryz.f116) (by kernel_rfl) c116 (by kernel_rfl) (by simp [f116]) ?_
  unfold f116
  simp only []
  refine DRX.go rfl ?_
  simp -dsimp only [XZ, SZ, EZ, astep, aun, AVal.cells, seval, ← hz, ← hH1]
  refine DRX.go rfl ?_
  simp -dsimp only [XZ, SZ, EZ, astep, aun, AVal.cells, seval]
  refine DCall.monoX (g47 (i := 1) ok ht hkt t1) ?_
  rintro r H2 ⟨b2, rfl⟩
  simp -dsimp only [XZ, SZ, EZ, astep, aun, AVal.cells, seval, hfld]
  refine DCall.monoX (g151 okt) ?_
  rintro v H3 ⟨b3, hl, hv⟩
  have k3 := b3.get (b2.get t1)
  have l0 := load_cell k3 (o := 0) (v := u.row) rfl
  have ra := TM.row_at ok hy H3
  have la := TM.load y (TM.flat (u.l.drop (2 + 1))) H3
  simp -dsimp only [XZ, SZ, EZ, astep, aun, AVal.cells, seval]
  refine DRX.nm rfl ?_
  refine DRX.draw (by kernel_rfl) d116_2 ?_
  simp -dsimp only [m116_2, YZ, XZ, SZ, EZ, astep, aun, AVal.cells, seval, DS_nil, DS_cons, seesAll, staysAll, abit, List.getD_cons_zero, List.getD_cons_succ, AOp.quiet, AOp.reads, true_and, and_true, decide_true, decide_false, and_self, hl, l0, ra, la]
  refine (g110 (m := t.l.length) ok hx hk (by omega) k3).mono ?_
  rintro o H4 ⟨b4, ⟨⟨h1, h2⟩, j, hj, rfl⟩ | ⟨h1, rfl⟩⟩
  · have hlt : j < t.l.length := by omega
    obtain ⟨id, rfl, hid, hge⟩ := hv (by omega)
    have l0' := load_cell (b4.get k3) (o := 0) (v := u.row) rfl
    have ra3 : aiaddr H3 5 u.row (.int .i64 2) = some (.rop (y.cells ++ TM.flat (u.l.drop 3))) := TM.row_at ok hy H3
    have ra4 : aiaddr H4 5 u.row (.int .i64 2) = some (.rop (y.cells ++ TM.flat (u.l.drop 3))) := TM.row_at ok hy H4
    have la3 := TM.load y (TM.flat (u.l.drop 3)) H3
    have la4 := TM.load y (TM.flat (u.l.drop 3)) H4
    have rj : aiaddr H4 5 (.sl id 0 t.l.length none) (.int .i64 (j : Nat)) = some (.ptr id (j * 5)) := by
      simp only [aiaddr]
      rw [if_pos ⟨by omega, by omega⟩, Int.toNat_natCast, Nat.zero_add]
    have hid4 := b4.get hid
    have st : astore H4 5 (.ptr id (j * 5)) y.agg = some (H4.set id (.cells 25 (TM.flat (t.l.set j y)))) := by
      show astore H4 5 (.ptr id (j * 5)) (.agg (TM.c5 y)) = _
      simp only [astore, hid4]
      rw [if_pos ⟨rfl, by rw [TM.flat_length]; omega, TM.ones5 y⟩]
      show some (H4.set id (.cells 25 (aput (TM.flat t.l) (j * 5) (TM.c5 y)))) = _
      rw [flat_set hlt]
    obtain ⟨H5, hH5, g5, n5, f5⟩ := upd hid4 (.cells 25 (TM.flat (t.l.set j y)))
    have hn : H.next < id := by have := b1.1; have := b2.1; omega
    have b5 : Gro H4 (H5.del id) → True := fun _ => trivial
    have okl : (TM.of false (t.l.set j y)).ok := TM.of_ok (oks_set (TM.ok_oks okt) oky) (by rw [List.length_set]; exact hle) (fun h => nomatch h)
    simp -dsimp only [YZ, XZ, SZ, EZ, astep, aun, AVal.cells, seval, DS_nil, DS_cons, seesAll, staysAll, abit, List.getD_cons_zero, List.getD_cons_succ, AOp.quiet, AOp.reads, true_and, and_true, decide_true, decide_false, and_self, l0, l0', ra3, ra4, la3, la4, rj, st, ← hH5]
    have hcall : DCall Tryz.prog 119 [.sl id 0 t.l.length none] H5 fun r H' => Made (t.l.set j y) r ∧ H' = H5.del id :=
      DCall.retire (n := t.l.length) (args' := [(TM.of false (t.l.set j y)).row]) g5 (TM.pures _) (by
        have : (t.l.set j y).length = t.l.length := List.length_set ..
        show freezeL (fr1 id t.l.length (TM.flat (t.l.set j y))) [.sl id 0 t.l.length none] = some [.ros (TM.flat (t.l.set j y)) (t.l.set j y).length]
        rw [this]
        simp [freezeL, fr1]) (fun r h => h.pure) (g119 okl AHeap.empty)
    have t6 : (H5.del id).get H.next = some (.cells 25 z25) := by
      rw [AHeap.get_del, if_neg (by omega), f5 _ (by omega)]
      exact b4.get (b3.get (b2.get g1))
    have b6 : Gro H (H5.del id) := ⟨by show H.next ≤ H5.next; have := b1.1; have := b2.1; have := b3.1; have := b4.1; omega, fun i hi => by
      rw [AHeap.get_del, if_neg (by omega), f5 _ (by omega), b4.2 i (by have := b1.1; have := b2.1; have := b3.1; omega), b3.2 i (by have := b1.1; have := b2.1; omega), b2.2 i (by have := b1.1; omega), b1.2 i hi]⟩
    refine DRX.go rfl ?_
    simp -dsimp only [XZ, SZ, EZ, astep, aun, AVal.cells, seval]
    refine DCall.monoX hcall ?_
    rintro r H' ⟨hr, rfl⟩
    rcases hr with rfl | ⟨e, h0, rfl⟩
    · have iy0 : ([(norm (tup7 false (t.l.set j y))).agg, .int .i64 0] : List AVal)[0]? = some (norm (tup7 false (t.l.set j y))).agg := rfl
      have iy1 : ([(norm (tup7 false (t.l.set j y))).agg, .int .i64 0] : List AVal)[1]? = some (.int .i64 0) := rfl
      simp -dsimp only [XZ, SZ, EZ, astep, aun, AVal.cells, seval, iy0, iy1]
      refine (g35 (c := TM.c5 (norm (tup7 false (t.l.set j y)))) rfl (TM.ones5 _)).mono ?_
      rintro o H7 ⟨b7, ⟨_, rfl⟩ | ⟨hh, rfl⟩⟩
      · have t7 := b7.get t6
        have s7 := store_all (n := 5) t7 (new := TM.c5 (norm (tup7 false (t.l.set j y)))) rfl (TM.ones5 _) rfl
        obtain ⟨H8, hH8, g8, n8, f8⟩ := upd t7 (.cells 25 (TM.c5 (norm (tup7 false (t.l.set j y)))))
        have l8 := load_all (n := 5) g8 rfl
        simp -dsimp only [XZ, SZ, EZ, astep, aun, AVal.cells, seval, s7, ← hH8]
        refine DRX.nm rfl ?_
        exact DRX.ret ⟨(norm (tup7 false (t.l.set j y))).agg, by simp [aresult, ares, Env.get, l8], ⟨by have := b6.1; have := b7.1; omega, fun i hi => by rw [f8 i (by omega), (b6.trans b7).2 i hi]⟩, .inl ⟨norm (tup7 false (t.l.set j y)), norm_ok _ (tup7_ok okl.2.2.2.2.2.2 okl.2.2.2.2.1 (fun h => nomatch h)), ⟨j, hj, hlt, rfl⟩, rfl⟩⟩
      · exact absurd rfl hh
    · have iy0 : ([.agg z25, .int .i64 e] : List AVal)[0]? = some (.agg z25) := rfl
      have iy1 : ([.agg z25, .int .i64 e] : List AVal)[1]? = some (.int .i64 e) := rfl
      simp -dsimp only [XZ, SZ, EZ, astep, aun, AVal.cells, seval, iy0, iy1]
      refine (g35 (c := z25) rfl rfl).mono ?_
      rintro o H7 ⟨b7, ⟨hh, rfl⟩ | ⟨_, rfl⟩⟩
      · exact absurd hh h0
      · exact ⟨b6.trans b7, .inr ⟨e, h0, rfl⟩⟩
  · have ra3 : aiaddr H3 5 u.row (.int .i64 2) = some (.rop (y.cells ++ TM.flat (u.l.drop 3))) := TM.row_at ok hy H3
    have la3 := TM.load y (TM.flat (u.l.drop 3)) H3
    refine And.intro ⟨(b1.trans b2).trans (b3.trans b4), .inr ⟨13, by decide, rfl⟩⟩ ?_
    simp -dsimp only [YZ, XZ, SZ, EZ, astep, aun, AVal.cells, seval, DS_nil, DS_cons, seesAll, staysAll, abit, List.getD_cons_zero, List.getD_cons_succ, AOp.quiet, AOp.reads, true_and, and_true, decide_true, decide_false, and_self, l0, ra3, la3]
end Go.Am.Rl

/- 'setelement' called; a term normed twice; 'right' of terms in a block. -/
namespace Go.Am.Rl
open Go.Proofs

theorem norm_norm : ∀ t : TM, norm (norm t) = norm t := by
  refine TM.all fun t ih => ?_
  cases t with
  | mk k n f s nl l =>
    have hm : norms (norms l) = norms l := by
      rw [norms_map, norms_map, List.map_map]
      exact List.map_congr_left fun x hx => ih x hx
    show TM.mk k n f s (norms l).isEmpty (norms (norms l)) = TM.mk k n f s l.isEmpty (norms l)
    rw [hm]
    have : (norms l).isEmpty = l.isEmpty := by rw [norms_map]; cases l <;> rfl
    rw [this]
theorem norm_l (t : TM) : (norm t).l = t.l.map norm := by cases t; exact norms_map _
/-- 'setelement' of a tuple. -/
theorem c_setelement {x t y : TM} (ox : x.ok) (ot : t.ok) (oy : y.ok) (hk : x.k = 1) (hkt : t.k = 7) (H : AHeap) :
    DCall Tryz.prog 9 [.str ⟨#[115, 101, 116, 101, 108, 101, 109, 101, 110, 116]⟩, (TM.of false [x, t, y]).row] H fun r H' => Called (fun z => ∃ j : Nat, (j : Int) + 1 = x.n ∧ j < t.l.length ∧ z = norm (tup7 false (t.l.set j y))) (fun e => e ≠ 0) r ∧ H' = H := by
  have ok : (TM.of false [x, t, y]).ok := TM.of_ok ⟨ox, ot, oy, trivial⟩ (by show 3 ≤ 2 ^ 41; decide) (fun h => nomatch h)
  exact g9c ok (fun H => (xclosed_sound mixed tab_ok cmp90_ok find_setelement H).dcall) (fun H cid g => g116 ok rfl hk rfl hkt rfl g) (fun e he => he) H
/-- A row of terms in a block, frozen. -/
theorem flat_freeze (l : List TM) {H : AHeap} {id : Nat} {cap : Option Nat} (g : H.get id = some (.cells 25 (TM.flat l))) : freezeL (freeze szs H (SizeOf.sizeOf (TM.flat l) + 1)) [.sl id 0 l.length cap] = some [.ros (TM.flat l) l.length] := by
  have h1 : freezeL (freeze szs H (SizeOf.sizeOf (TM.flat l))) (TM.flat l) = some (TM.flat l) := freezeL_all fun a ha => freeze_pure _ a (List.sizeOf_lt_of_mem ha) (pures_mem (TM.pures l) a ha)
  have h2 : ((TM.flat l).drop 0).take (l.length * szs 25) = TM.flat l := by
    show ((TM.flat l).drop 0).take (l.length * 5) = TM.flat l
    rw [List.drop_zero, List.take_of_length_le (by rw [TM.flat_length]; omega)]
  simp only [freezeL, freeze, g, h2, h1]
theorem g8r {l : List TM} (ok : (TM.of false l).ok) {H : AHeap} {id : Nat} {cap : Option Nat} (g : H.get id = some (.cells 25 (TM.flat l))) : DCall Tryz.prog 8 [.sl id 0 l.length cap] H fun r H' => (∃ b, r = .bool b) ∧ H' = H := by
  refine DCall.framed (Q' := fun r => ∃ b, r = .bool b) (flat_freeze l g) (TM.purer (u := TM.of false l)) (g8 false l ok) ?_
  rintro r H1 ⟨b, rfl, hb⟩
  exact ⟨1, .bool b, rfl, rfl, b, rfl⟩
/-- A call handed a row of terms in a block, that is not asked for again. -/
theorem retire_flat {f : FuncId} {nm : ByteArray} {l : List TM} {H : AHeap} {id : Nat} {cap : Option Nat} {K : AVal → Prop} (g : H.get id = some (.cells 25 (TM.flat l))) (hr : ∀ r, K r → r.pure = true) (h : DCall Tryz.prog f [.str nm, (TM.of false l).row] AHeap.empty fun r H1 => K r ∧ H1 = AHeap.empty) :
    DCall Tryz.prog f [.str nm, .sl id 0 l.length cap] H fun r H' => K r ∧ H' = H.del id :=
  DCall.retire (n := l.length) (args' := [.str nm, (TM.of false l).row]) g (TM.pures _) (by
    show freezeL (fr1 id l.length (TM.flat l)) [.str nm, .sl id 0 l.length cap] = some [.str nm, .ros (TM.flat l) l.length]
    simp [freezeL, fr1, AVal.pure]) hr h
theorem Called.pure {Y : TM → Prop} {E : Int → Prop} {r : AVal} (h : Called Y E r) : r.pure = true := by
  rcases h with ⟨y, _, _, rfl⟩ | ⟨_, rfl⟩
  · have := TM.pures1 (norm y)
    simp only [AVal.pures, AVal.pure, Bool.and_true] at this ⊢
    exact this
  · rfl
/-- An integer. -/
abbrev int1 (n : Int) : TM := .mk 1 n 0 ⟨#[]⟩ true []
theorem int1_ok {n : Int} (h : (Lit.int .i64 n).wf = true) : (int1 n).ok := ⟨by kernel_rfl, h, by kernel_rfl, Nat.zero_le _, Nat.zero_le _, fun _ => rfl, trivial⟩
theorem g10 (n : Int) (H : AHeap) : DCall Tryz.prog 10 [.int .i64 n] H fun r H' => r = (int1 n).agg ∧ H' = H := by
  have hz : z25 = [.int .i64 0, .int .i64 0, .flt .f64 0, .str ⟨#[]⟩, .nils] := rfl
  refine DCall.closed (sz := szs) (by rfl) (Q := fun r _ => r = (int1 n).agg) (Q' := fun r => r = (int1 n).agg) ?_ (fun r H1 e => ⟨SizeOf.sizeOf r + 1, r, freeze_pure _ _ (by omega) (by rw [e]; rfl), e⟩) H
  obtain ⟨H1, hH1, g1, n1, f1⟩ := psh AHeap.empty (.cells 25 z25)
  have s1 := store_all (n := 5) g1 (new := TM.c5 (int1 n)) rfl (TM.ones5 _) rfl
  obtain ⟨H2, hH2, g2, n2, f2⟩ := upd g1 (.cells 25 (TM.c5 (int1 n)))
  have l2 := load_all (n := 5) g2 rfl
  have hfl : afill z25 [(0, 1, .int .i64 1), (1, 1, .int .i64 n)] = some (TM.c5 (int1 n)) := rfl
  refine DCall.of_body (fn := Tryz.f10) (by kernel_rfl) c10 (by kernel_rfl) (by simp [f10]) ?_
  unfold f10
  simp only []
  refine DR.go rfl ?_
  simp -dsimp only [SZ, EZ, astep, aun, AVal.cells, seval, ← hz, ← hH1]
  refine DR.go rfl ?_
  simp -dsimp only [SZ, EZ, astep, aun, AVal.cells, seval, Env.parts, ← hz, hfl, s1, ← hH2]
  refine DR.nm rfl ?_
  exact DR.ret ⟨(int1 n).agg, by simp [aresult, ares, Env.get, l2], rfl⟩
end Go.Am.Rl
