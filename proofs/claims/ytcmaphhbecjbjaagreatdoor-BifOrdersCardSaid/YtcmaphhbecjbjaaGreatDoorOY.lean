/- Parts: OD, OE, OF, OG. -/
import Derived.Test.YtcmaphhbecjbjaaGreatDoorOX
import Derived.Test.YtcmaphhbecjbjaaGreatDoorBQ
set_option linter.unusedVariables false
set_option linter.unusedSimpArgs false
set_option maxRecDepth 20000
/- Terms compared by the program. -/
namespace Go.Am.Rl
open Go.Proofs

theorem rank_in {k : Int} (h : 1 ≤ k ∧ k ≤ 8) : 0 ≤ rank k ∧ rank k ≤ 8 := by unfold rank; split <;> omega
theorem neq_dec (k n : Int) : abin .neq (.int .i64 k) (.int .i64 n) = some (.bool (decide (k ≠ n))) := by
  by_cases h : k = n
  · subst h; rw [neq_int]; simp
  · simp [abin, h]
theorem neqF {k n : Int} (h : k = n) : abin .neq (.int .i64 k) (.int .i64 n) = some (.bool false) := by rw [neq_dec]; simp [h]
theorem neqT {k n : Int} (h : k ≠ n) : abin .neq (.int .i64 k) (.int .i64 n) = some (.bool true) := by rw [neq_dec]; simp [h]
theorem eqlF {k n : Int} (h : k ≠ n) : abin .eql (.int .i64 k) (.int .i64 n) = some (.bool false) := by rw [eql_dec]; simp [h]
theorem eqlT {k n : Int} (h : k = n) : abin .eql (.int .i64 k) (.int .i64 n) = some (.bool true) := by rw [eql_dec]; simp [h]
theorem g55 : ∀ a : TM, a.ok → fine a → ∀ b : TM, b.ok → fine b → ∀ H : AHeap, DCall Tryz.prog 23 [a.agg, b.agg] H fun r H' => r = .int .i64 (ord a b) ∧ H' = H := by
  refine TM.all fun a ih oa fa b ob fb H => ?_
  have ih' : ∀ x ∈ a.l, ∀ y ∈ b.l, ∀ H, DCall Tryz.prog 23 [x.agg, y.agg] H fun r H' => r = .int .i64 (ord x y) ∧ H' = H := fun x hx y hy H =>
    ih x hx (TM.oks_mem (TM.ok_oks oa) x hx) (fines_iff.mp ((fine_eq a).mp fa).2 x hx) y (TM.oks_mem (TM.ok_oks ob) y hy) (fines_iff.mp ((fine_eq b).mp fb).2 y hy) H
  have ka := fine_kind fa
  have kb := fine_kind fb
  have ra := rank_in ka
  have rb := rank_in kb
  have h : DCall Tryz.prog 23 [a.agg, b.agg] AHeap.empty fun r H' => ∃ n, r = .int .i64 n ∧ n = ord a b := by
    obtain ⟨H1, hH1, g1, n1, f1⟩ := psh AHeap.empty (.cells 25 (TM.c5 a))
    obtain ⟨H2, hH2, g2, n2, f2⟩ := psh H1 (.cells 25 (TM.c5 b))
    have a2 := (f2 _ (by omega)).trans g1
    have la := load_all (n := 5) a2 rfl
    have lb := load_all (n := 5) g2 rfl
    have a0 := load_cell a2 (o := 0) (v := .int .i64 a.k) rfl
    have a1 := load_cell a2 (o := 1) (v := .int .i64 a.n) rfl
    have a3 := load_cell a2 (o := 3) (v := .str a.s) rfl
    have a4 := load_cell a2 (o := 4) (v := a.row) rfl
    have b0 := load_cell g2 (o := 0) (v := .int .i64 b.k) rfl
    have b1 := load_cell g2 (o := 1) (v := .int .i64 b.n) rfl
    have b3 := load_cell g2 (o := 3) (v := .str b.s) rfl
    have b4 := load_cell g2 (o := 4) (v := b.row) rfl
    have hla := TM.lenT oa H2
    have hlb := TM.lenT ob H2
    have hsub : abin .sub (.int .i64 (rank a.k)) (.int .i64 (rank b.k)) = some (.int .i64 (rank a.k - rank b.k)) := by
      show some (AVal.int .i64 (IntKind.i64.wrap (rank a.k - rank b.k))) = _
      rw [IntKind.wrap_i64, show (rank a.k - rank b.k + 9223372036854775808) % 18446744073709551616 - 9223372036854775808 = rank a.k - rank b.k by omega]
    rw [ord_eq]
    refine DCall.of_body (fn := Tryz.f23) (by kernel_rfl) c23 (by kernel_rfl) (by simp [f23]) ?_
    unfold f23
    simp only []
    refine DR.go rfl ?_
    simp -dsimp only [SZ, EZ, astep, aun, AVal.cells, seval, ← hH1, ← hH2]
    refine DR.nm rfl ?_
    refine DR.draw (by kernel_rfl) d23_1 ?_
    simp -dsimp only [m23_1, SZ, EZ, astep, aun, AVal.cells, seval, DS_nil, DS_cons, seesAll, staysAll, abit, List.getD_cons_zero, List.getD_cons_succ, AOp.quiet, AOp.reads, true_and, and_true, decide_true, decide_false, and_self, a0, b0]
    refine (g88 a.k H2).mono ?_
    rintro r H' ⟨rfl, he⟩
    obtain rfl := he.symm
    simp -dsimp only [SZ, EZ, astep, aun, AVal.cells, seval, DS_nil, DS_cons, seesAll, staysAll, abit, List.getD_cons_zero, List.getD_cons_succ, AOp.quiet, AOp.reads, true_and, and_true, decide_true, decide_false, and_self, a0, b0]
    refine (g88 b.k H2).mono ?_
    rintro r H' ⟨rfl, he⟩
    obtain rfl := he.symm
    simp -dsimp only [SZ, EZ, astep, aun, AVal.cells, seval, DS_nil, DS_cons, seesAll, staysAll, abit, List.getD_cons_zero, List.getD_cons_succ, AOp.quiet, AOp.reads, true_and, and_true, decide_true, decide_false, and_self, a0, b0, hsub]
    by_cases hr : rank a.k - rank b.k = 0
    · have c := neqF hr
      rw [if_neg (by omega)]
      refine DR.go rfl ?_
      simp -dsimp only [SZ, EZ, astep, aun, AVal.cells, seval, c]
      refine DR.ne rfl rfl ?_
      refine DR.go rfl ?_
      simp -dsimp only [SZ, EZ, astep, aun, AVal.cells, seval, a0]
      by_cases h12 : a.k = 1 ∨ a.k = 2
      · have hb12 : b.k = 1 ∨ b.k = 2 := by
          have := (rank_pos ka.1).mpr h12
          exact (rank_pos kb.1).mp (by omega)
        rw [if_pos h12]
        rcases h12 with h1 | h2
        · have c1 := eqlT h1
          refine DR.go rfl ?_
          simp -dsimp only [SZ, EZ, astep, aun, AVal.cells, seval, c1]
          refine DR.ye rfl rfl ?_
          refine DR.ye rfl rfl ?_
          refine DR.go rfl ?_
          simp -dsimp only [SZ, EZ, astep, aun, AVal.cells, seval, la, lb]
          refine (g90 (numb_of fa (.inl h1)) (numb_of fb hb12) H2).mono ?_
          rintro r H' ⟨rfl, he⟩
          obtain rfl := he.symm
          simp -dsimp only [SZ, EZ, astep, aun, AVal.cells, seval]
          refine DR.nm rfl ?_
          exact DR.ret ⟨_, by simp [aresult, ares, Env.get] <;> rfl, _, rfl, rfl⟩
        · have c1 : abin .eql (.int .i64 a.k) (.int .i64 1) = some (.bool false) := eqlF (by omega)
          have c2 := eqlT h2
          refine DR.go rfl ?_
          simp -dsimp only [SZ, EZ, astep, aun, AVal.cells, seval, c1]
          refine DR.ne rfl rfl ?_
          refine DR.go rfl ?_
          simp -dsimp only [SZ, EZ, astep, aun, AVal.cells, seval, c2]
          refine DR.ye rfl rfl ?_
          refine DR.go rfl ?_
          simp -dsimp only [SZ, EZ, astep, aun, AVal.cells, seval, la, lb]
          refine (g90 (numb_of fa (.inr h2)) (numb_of fb hb12) H2).mono ?_
          rintro r H' ⟨rfl, he⟩
          obtain rfl := he.symm
          simp -dsimp only [SZ, EZ, astep, aun, AVal.cells, seval]
          refine DR.nm rfl ?_
          exact DR.ret ⟨_, by simp [aresult, ares, Env.get] <;> rfl, _, rfl, rfl⟩
      rw [if_neg h12]
      have c1 : abin .eql (.int .i64 a.k) (.int .i64 1) = some (.bool false) := eqlF (by omega)
      have c2 : abin .eql (.int .i64 a.k) (.int .i64 2) = some (.bool false) := eqlF (by omega)
      refine DR.go rfl ?_
      simp -dsimp only [SZ, EZ, astep, aun, AVal.cells, seval, c1]
      refine DR.ne rfl rfl ?_
      refine DR.go rfl ?_
      simp -dsimp only [SZ, EZ, astep, aun, AVal.cells, seval, c2]
      refine DR.ne rfl rfl ?_
      by_cases h3 : a.k = 3
      · have c3 := eqlT h3
        rw [if_pos h3]
        refine DR.go rfl ?_
        simp -dsimp only [SZ, EZ, astep, aun, AVal.cells, seval, c3]
        refine DR.ye rfl rfl ?_
        refine DR.go rfl ?_
        simp -dsimp only [SZ, EZ, astep, aun, AVal.cells, seval, a3, b3]
        refine (g91 a.s b.s H2).mono ?_
        rintro r H' ⟨rfl, he⟩
        obtain rfl := he.symm
        simp -dsimp only [SZ, EZ, astep, aun, AVal.cells, seval]
        refine DR.nm rfl ?_
        exact DR.ret ⟨_, by simp [aresult, ares, Env.get] <;> rfl, _, rfl, rfl⟩
      have c3 := eqlF h3
      rw [if_neg h3]
      refine DR.go rfl ?_
      simp -dsimp only [SZ, EZ, astep, aun, AVal.cells, seval, c3]
      refine DR.ne rfl rfl ?_
      by_cases h46 : a.k = 4 ∨ a.k = 6
      · rw [if_pos h46]
        rcases h46 with h4 | h6
        · have c4 := eqlT h4
          refine DR.go rfl ?_
          simp -dsimp only [SZ, EZ, astep, aun, AVal.cells, seval, c4]
          refine DR.ye rfl rfl ?_
          refine DR.ye rfl rfl ?_
          refine DR.go rfl ?_
          simp -dsimp only [SZ, EZ, astep, aun, AVal.cells, seval, a1, b1]
          refine (g89 a.n b.n H2).mono ?_
          rintro r H' ⟨rfl, he⟩
          obtain rfl := he.symm
          simp -dsimp only [SZ, EZ, astep, aun, AVal.cells, seval]
          refine DR.nm rfl ?_
          exact DR.ret ⟨_, by simp [aresult, ares, Env.get] <;> rfl, _, rfl, rfl⟩
        · have c4 : abin .eql (.int .i64 a.k) (.int .i64 4) = some (.bool false) := eqlF (by omega)
          have c6 := eqlT h6
          refine DR.go rfl ?_
          simp -dsimp only [SZ, EZ, astep, aun, AVal.cells, seval, c4]
          refine DR.ne rfl rfl ?_
          refine DR.go rfl ?_
          simp -dsimp only [SZ, EZ, astep, aun, AVal.cells, seval, c6]
          refine DR.ye rfl rfl ?_
          refine DR.go rfl ?_
          simp -dsimp only [SZ, EZ, astep, aun, AVal.cells, seval, a1, b1]
          refine (g89 a.n b.n H2).mono ?_
          rintro r H' ⟨rfl, he⟩
          obtain rfl := he.symm
          simp -dsimp only [SZ, EZ, astep, aun, AVal.cells, seval]
          refine DR.nm rfl ?_
          exact DR.ret ⟨_, by simp [aresult, ares, Env.get] <;> rfl, _, rfl, rfl⟩
      rw [if_neg h46]
      have c4 : abin .eql (.int .i64 a.k) (.int .i64 4) = some (.bool false) := eqlF (by omega)
      have c6 : abin .eql (.int .i64 a.k) (.int .i64 6) = some (.bool false) := eqlF (by omega)
      refine DR.go rfl ?_
      simp -dsimp only [SZ, EZ, astep, aun, AVal.cells, seval, c4]
      refine DR.ne rfl rfl ?_
      refine DR.go rfl ?_
      simp -dsimp only [SZ, EZ, astep, aun, AVal.cells, seval, c6]
      refine DR.ne rfl rfl ?_
      by_cases h5 : a.k = 5
      · have c5 := eqlT h5
        rw [if_pos h5]
        refine DR.go rfl ?_
        simp -dsimp only [SZ, EZ, astep, aun, AVal.cells, seval, c5]
        refine DR.ye rfl rfl ?_
        refine DR.go rfl ?_
        simp -dsimp only [SZ, EZ, astep, aun, AVal.cells, seval, a1, b1]
        refine (g89 a.n b.n H2).mono ?_
        rintro r H' ⟨rfl, he⟩
        obtain rfl := he.symm
        simp -dsimp only [SZ, EZ, astep, aun, AVal.cells, seval]
        by_cases h0 : ordI a.n b.n = 0
        · have d := neqF h0
          rw [if_neg (by omega)]
          refine DR.go rfl ?_
          simp -dsimp only [SZ, EZ, astep, aun, AVal.cells, seval, d]
          refine DR.ne rfl rfl ?_
          refine DR.go rfl ?_
          simp -dsimp only [SZ, EZ, astep, aun, AVal.cells, seval, a4, b4]
          refine (g92 oa ob ih' H2).mono ?_
          rintro r H' ⟨rfl, he⟩
          obtain rfl := he.symm
          simp -dsimp only [SZ, EZ, astep, aun, AVal.cells, seval]
          refine DR.nm rfl ?_
          exact DR.ret ⟨_, by simp [aresult, ares, Env.get] <;> rfl, _, rfl, rfl⟩
        · have d := neqT h0
          rw [if_pos h0]
          refine DR.go rfl ?_
          simp -dsimp only [SZ, EZ, astep, aun, AVal.cells, seval, d]
          refine DR.ye rfl rfl ?_
          refine DR.go rfl ?_
          simp -dsimp only [SZ, EZ, astep, aun, AVal.cells, seval]
          refine DR.nm rfl ?_
          exact DR.ret ⟨_, by simp [aresult, ares, Env.get] <;> rfl, _, rfl, rfl⟩
      rw [if_neg h5]
      have c5 := eqlF h5
      refine DR.go rfl ?_
      simp -dsimp only [SZ, EZ, astep, aun, AVal.cells, seval, c5]
      refine DR.ne rfl rfl ?_
      by_cases h7 : a.k = 7
      · have c7 := eqlT h7
        rw [if_pos h7]
        refine DR.go rfl ?_
        simp -dsimp only [SZ, EZ, astep, aun, AVal.cells, seval, c7]
        refine DR.ye rfl rfl ?_
        refine DR.go rfl ?_
        simp -dsimp only [SZ, EZ, astep, aun, AVal.cells, seval, a4, b4, hla, hlb]
        refine (g89 (a.l.length : Nat) (b.l.length : Nat) H2).mono ?_
        rintro r H' ⟨rfl, he⟩
        obtain rfl := he.symm
        simp -dsimp only [SZ, EZ, astep, aun, AVal.cells, seval]
        by_cases h0 : ordI (a.l.length : Nat) (b.l.length : Nat) = 0
        · have d := neqF h0
          rw [if_neg (by omega)]
          refine DR.go rfl ?_
          simp -dsimp only [SZ, EZ, astep, aun, AVal.cells, seval, d]
          refine DR.ne rfl rfl ?_
          refine DR.go rfl ?_
          simp -dsimp only [SZ, EZ, astep, aun, AVal.cells, seval, a4, b4]
          refine (g92 oa ob ih' H2).mono ?_
          rintro r H' ⟨rfl, he⟩
          obtain rfl := he.symm
          simp -dsimp only [SZ, EZ, astep, aun, AVal.cells, seval]
          refine DR.nm rfl ?_
          exact DR.ret ⟨_, by simp [aresult, ares, Env.get] <;> rfl, _, rfl, rfl⟩
        · have d := neqT h0
          rw [if_pos h0]
          refine DR.go rfl ?_
          simp -dsimp only [SZ, EZ, astep, aun, AVal.cells, seval, d]
          refine DR.ye rfl rfl ?_
          refine DR.go rfl ?_
          simp -dsimp only [SZ, EZ, astep, aun, AVal.cells, seval]
          refine DR.nm rfl ?_
          exact DR.ret ⟨_, by simp [aresult, ares, Env.get] <;> rfl, _, rfl, rfl⟩
      rw [if_neg h7]
      have c7 := eqlF h7
      refine DR.go rfl ?_
      simp -dsimp only [SZ, EZ, astep, aun, AVal.cells, seval, c7]
      refine DR.ne rfl rfl ?_
      refine DR.go rfl ?_
      simp -dsimp only [SZ, EZ, astep, aun, AVal.cells, seval, a4, b4]
      refine (g92 oa ob ih' H2).mono ?_
      rintro r H' ⟨rfl, he⟩
      obtain rfl := he.symm
      simp -dsimp only [SZ, EZ, astep, aun, AVal.cells, seval]
      refine DR.nm rfl ?_
      exact DR.ret ⟨_, by simp [aresult, ares, Env.get] <;> rfl, _, rfl, rfl⟩
    · have c := neqT hr
      rw [if_pos hr]
      refine DR.go rfl ?_
      simp -dsimp only [SZ, EZ, astep, aun, AVal.cells, seval, c]
      refine DR.ye rfl rfl ?_
      refine DR.go rfl ?_
      simp -dsimp only [SZ, EZ, astep, aun, AVal.cells, seval]
      refine (g89 (rank a.k - rank b.k) 0 H2).mono ?_
      rintro r H' ⟨rfl, he⟩
      obtain rfl := he.symm
      simp -dsimp only [SZ, EZ, astep, aun, AVal.cells, seval]
      refine DR.nm rfl ?_
      exact DR.ret ⟨_, by simp [aresult, ares, Env.get] <;> rfl, _, rfl, rfl⟩
  exact (DCall.ints (TM.pures22 a b) h H).mono fun r H' ⟨⟨n, h1, h3⟩, h2⟩ => ⟨by rw [h1, h3], h2⟩
theorem g54 {a b : TM} (oa : a.ok) (ob : b.ok) (ra : right a) (rb : right b) (H : AHeap) : DCall Tryz.prog 22 [a.agg, b.agg] H fun r H' => r = .int .i64 0 ∧ H' = H := by
  have h : DCall Tryz.prog 22 [a.agg, b.agg] AHeap.empty fun r H' => ∃ n, r = .int .i64 n ∧ n = 0 := by
    obtain ⟨H1, hH1, g1, n1, f1⟩ := psh AHeap.empty (.cells 25 (TM.c5 a))
    obtain ⟨H2, hH2, g2, n2, f2⟩ := psh H1 (.cells 25 (TM.c5 b))
    have a2 := (f2 _ (by omega)).trans g1
    have la := load_all (n := 5) a2 rfl
    have lb := load_all (n := 5) g2 rfl
    refine DCall.of_body (fn := Tryz.f22) (by kernel_rfl) c22 (by kernel_rfl) (by simp [f22]) ?_
    unfold f22
    simp only []
    refine DR.go rfl ?_
    simp -dsimp only [SZ, EZ, astep, aun, AVal.cells, seval, ← hH1, ← hH2]
    refine DR.go rfl ?_
    simp -dsimp only [SZ, EZ, astep, aun, AVal.cells, seval, la]
    refine (g87x a oa ra H2).mono ?_
    rintro r H' ⟨rfl, he⟩
    obtain rfl := he.symm
    simp -dsimp only [SZ, EZ, astep, aun, AVal.cells, seval]
    refine DR.go rfl ?_
    simp -dsimp only [SZ, EZ, astep, aun, AVal.cells, seval, neq_int]
    refine DR.ne rfl rfl ?_
    refine DR.go rfl ?_
    simp -dsimp only [SZ, EZ, astep, aun, AVal.cells, seval, lb]
    refine (g87x b ob rb H2).mono ?_
    rintro r H' ⟨rfl, he⟩
    obtain rfl := he.symm
    simp -dsimp only [SZ, EZ, astep, aun, AVal.cells, seval]
    refine DR.nm rfl ?_
    exact DR.ret ⟨_, by simp [aresult, ares, Env.get] <;> rfl, _, rfl, rfl⟩
  exact (DCall.ints (TM.pures22 a b) h H).mono fun r H' ⟨⟨n, h1, h3⟩, h2⟩ => ⟨by rw [h1, h3], h2⟩
theorem g29 {a b : TM} (oa : a.ok) (ob : b.ok) (ra : right a) (rb : right b) (H : AHeap) : DCall Tryz.prog 10 [a.agg, b.agg] H fun r H' => r = .tup [.int .i64 (ord a b), .int .i64 0] ∧ H' = H := by
  refine DCall.closed (sz := szs) (TM.pures22 a b) (Q := fun r _ => r = .tup [.int .i64 (ord a b), .int .i64 0]) (Q' := fun r => r = .tup [.int .i64 (ord a b), .int .i64 0]) ?_ (fun r H1 e => ⟨5, r, by rw [e]; rfl, e⟩) H
  obtain ⟨H1, hH1, g1, n1, f1⟩ := psh AHeap.empty (.cells 25 (TM.c5 a))
  obtain ⟨H2, hH2, g2, n2, f2⟩ := psh H1 (.cells 25 (TM.c5 b))
  have a2 := (f2 _ (by omega)).trans g1
  have la := load_all (n := 5) a2 rfl
  have lb := load_all (n := 5) g2 rfl
  refine DCall.of_body (fn := Tryz.f10) (by kernel_rfl) c10 (by kernel_rfl) (by simp [f10]) ?_
  unfold f10
  simp only []
  refine DR.go rfl ?_
  simp -dsimp only [SZ, EZ, astep, aun, AVal.cells, seval, ← hH1, ← hH2]
  refine DR.go rfl ?_
  simp -dsimp only [SZ, EZ, astep, aun, AVal.cells, seval, la, lb]
  refine (g54 oa ob ra rb H2).mono ?_
  rintro r H' ⟨rfl, he⟩
  obtain rfl := he.symm
  simp -dsimp only [SZ, EZ, astep, aun, AVal.cells, seval]
  refine DR.go rfl ?_
  simp -dsimp only [SZ, EZ, astep, aun, AVal.cells, seval, neq_int]
  refine DR.ne rfl rfl ?_
  refine DR.go rfl ?_
  simp -dsimp only [SZ, EZ, astep, aun, AVal.cells, seval, la, lb]
  refine (g55 a oa ra.2.2 b ob rb.2.2 H2).mono ?_
  rintro r H' ⟨rfl, he⟩
  obtain rfl := he.symm
  simp -dsimp only [SZ, EZ, astep, aun, AVal.cells, seval]
  refine DR.nm rfl ?_
  exact DR.ret ⟨_, by simp [aresult, ares, Env.get] <;> rfl, rfl⟩
end Go.Am.Rl

/- Terms told identical by the program. -/
namespace Go.Am.Rl
open Go.Proofs

theorem e96 (f : Nat) : runP 107 [.flt .f64 f, .int .i64 0] (fun r _ => isB r) = true := by kernel_rfl
theorem g96 (f : Nat) (H : AHeap) : DCall Tryz.prog 107 [.flt .f64 f, .int .i64 0] H fun r H' => (∃ b, r = .bool b) ∧ H' = H := by
  have h : DCall Tryz.prog 107 [.flt .f64 f, .int .i64 0] AHeap.empty fun r H' => ∃ b, r = .bool b ∧ True := (runP_sound (e96 f)).mono fun r H' e => by obtain ⟨n, hn⟩ := isB_ex e; exact ⟨n, hn, trivial⟩
  exact (DCall.bools rfl h H).mono fun r H' ⟨⟨n, h1, _⟩, h2⟩ => ⟨⟨n, h1⟩, h2⟩
abbrev n3 (t : TM) : List AVal := [.int .i64 t.k, .int .i64 t.n, .int .u64 (t.f : Nat)]
abbrev z3 : List AVal := [.int .i64 0, .int .i64 0, .int .u64 0]
theorem g58 {t : TM} (ok : t.ok) (hf : fine t) (hk : t.k = 1 ∨ t.k = 2) (H : AHeap) : DCall Tryz.prog 71 [t.agg] H fun r H' => (∃ b, r = .tup [.agg (n3 t), .bool b]) ∧ H' = H := by
  refine DCall.closed (sz := szs) (TM.pures1 t) (Q := fun r _ => ∃ b, r = .tup [.agg (n3 t), .bool b]) (Q' := fun r => ∃ b, r = .tup [.agg (n3 t), .bool b]) ?_ (fun r H1 ⟨b, e⟩ => ⟨5, r, by rw [e]; rfl, b, e⟩) H
  have hp := ((fine_eq t).mp hf).1
  have hz : z3 = [.int .i64 0, .int .i64 0, .int .u64 0] := rfl
  have hsl : t.s = ⟨#[]⟩ ∧ t.l = [] := by
    rcases hp with ⟨h, h1, h2, _⟩ | ⟨h, h1, h2, _⟩ | ⟨h, _⟩ | ⟨h | h, _⟩ | ⟨h, _⟩ | ⟨h | h, _⟩ <;> first | exact ⟨h1, h2⟩ | omega
  obtain ⟨H1, hH1, g1, n1, f1⟩ := psh AHeap.empty (.cells 25 (TM.c5 t))
  obtain ⟨H2, hH2, g2, n2, f2⟩ := psh H1 (.cells 88 z3)
  obtain ⟨H3, hH3, g3, n3', f3⟩ := psh H2 (.cells 88 z3)
  have s4 := store_all (n := 3) g3 (new := n3 t) rfl rfl rfl
  obtain ⟨H4, hH4, g4, n4, f4⟩ := upd g3 (.cells 88 (n3 t))
  have t2 := (f2 _ (by omega)).trans g1
  have t4 : H4.get AHeap.empty.next = some (.cells 25 (TM.c5 t)) := by rw [f4 _ (by omega), f3 _ (by omega)]; exact t2
  have r4 : H4.get H1.next = some (.cells 88 z3) := by rw [f4 _ (by omega), f3 _ (by omega)]; exact g2
  have k2 := load_cell t2 (o := 0) (v := .int .i64 t.k) rfl
  have m2 := load_cell t2 (o := 1) (v := .int .i64 t.n) rfl
  have q2 := load_cell t2 (o := 2) (v := .flt .f64 t.f) rfl
  have t3 := (f3 _ (by omega)).trans t2
  have k3 := load_cell t3 (o := 0) (v := .int .i64 t.k) rfl
  have m3 := load_cell t3 (o := 1) (v := .int .i64 t.n) rfl
  have q3 := load_cell t3 (o := 2) (v := .flt .f64 t.f) rfl
  have k4 := load_cell t4 (o := 0) (v := .int .i64 t.k) rfl
  have m4 := load_cell t4 (o := 1) (v := .int .i64 t.n) rfl
  have q4 := load_cell t4 (o := 2) (v := .flt .f64 t.f) rfl
  have s4' := load_cell t4 (o := 3) (v := .str ⟨#[]⟩) (by show some (AVal.str t.s) = _; rw [hsl.1])
  have l4 := load_cell t4 (o := 4) (v := t.row) rfl
  have hl : alenT H4 1 t.row = some 0 := by have := TM.lenT ok H4; rw [hsl.2] at this; exact this
  have u4 := load_cell g4 (o := 2) (v := .int .u64 (t.f : Nat)) rfl
  have w4 := load_all (n := 3) g4 rfl
  have hx : aext 0 [.flt .f64 t.f] = some (.int .u64 (t.f : Nat)) := rfl
  have hfl : afill [.int .i64 0, .int .i64 0, .int .u64 0] [(0, 1, .int .i64 t.k), (1, 1, .int .i64 t.n), (2, 1, .int .u64 (t.f : Nat))] = some (n3 t) := rfl
  have e0 := neq_str ⟨#[]⟩
  have s5 := store_all (n := 3) r4 (new := n3 t) rfl rfl rfl
  obtain ⟨H5, hH5, g5, n5, f5⟩ := upd r4 (.cells 88 (n3 t))
  have l5 := load_all (n := 3) g5 rfl
  have t5 := (f5 _ (by omega)).trans t4
  have m5 := load_cell t5 (o := 1) (v := .int .i64 t.n) rfl
  have q5 := load_cell t5 (o := 2) (v := .flt .f64 t.f) rfl
  refine DCall.of_body (fn := Tryz.f71) (by kernel_rfl) c71 (by kernel_rfl) (by simp [f71]) ?_
  unfold f71
  simp only []
  refine DR.go rfl ?_
  simp -dsimp only [SZ, EZ, astep, aun, AVal.cells, seval, ← hH1, ← hz, ← hH2]
  refine DR.nm rfl ?_
  refine DR.draw (by kernel_rfl) d71_1 ?_
  simp -dsimp only [m71_1, SZ, EZ, astep, aun, AVal.cells, seval, DS_nil, DS_cons, seesAll, staysAll, abit, List.getD_cons_zero, List.getD_cons_succ, AOp.quiet, AOp.reads, true_and, and_true, decide_true, decide_false, and_self, k2, m2, q2, k3, m3, q3, hx, Env.parts, hfl, ← hz, ← hH3, s4, ← hH4]
  refine DR.go rfl ?_
  simp -dsimp only [SZ, EZ, astep, aun, AVal.cells, seval, s4', e0, l4, hl]
  refine DR.ne rfl rfl ?_
  refine DR.go rfl ?_
  simp -dsimp only [SZ, EZ, astep, aun, AVal.cells, seval, k4]
  rcases hk with h1 | h2
  · have hn : (-576460752303423488 ≤ t.n ∧ t.n ≤ 576460752303423487) ∧ t.f = 0 := by
      rcases hp with ⟨h, _, _, hn, hf⟩ | ⟨h, _⟩ | ⟨h, _⟩ | ⟨h | h, _⟩ | ⟨h, _⟩ | ⟨h | h, _⟩ <;> first | exact ⟨hn, hf⟩ | omega
    have c1 := eqlT h1
    have c2 : abin .eql (.int .u64 (t.f : Nat)) (.int .u64 0) = some (.bool true) := by rw [hn.2]; rfl
    have c3 : abin .geq (.int .i64 t.n) (.int .i64 (-576460752303423488)) = some (.bool true) := by simp [abin]; omega
    have c4 : abin .leq (.int .i64 t.n) (.int .i64 576460752303423487) = some (.bool true) := by simp [abin]; omega
    refine DR.go rfl ?_
    simp -dsimp only [SZ, EZ, astep, aun, AVal.cells, seval, c1]
    refine DR.ye rfl rfl ?_
    refine DR.nm rfl ?_
    refine DR.draw (by kernel_rfl) d71_6 ?_
    simp -dsimp only [m71_6, SZ, EZ, astep, aun, AVal.cells, seval, DS_nil, DS_cons, seesAll, staysAll, abit, List.getD_cons_zero, List.getD_cons_succ, AOp.quiet, AOp.reads, true_and, and_true, decide_true, decide_false, and_self, w4, u4, c2, m4, m5, c3, c4, s5, ← hH5]
    refine DR.nm rfl ?_
    exact DR.ret ⟨.tup [.agg (n3 t), .bool true], by simp [aresult, ares, Env.get, l5], _, rfl⟩
  · have hn : t.n = 0 ∧ fin64 t.f = true := by
      rcases hp with ⟨h, _⟩ | ⟨h, _, _, hn, hf⟩ | ⟨h, _⟩ | ⟨h | h, _⟩ | ⟨h, _⟩ | ⟨h | h, _⟩ <;> first | exact ⟨hn, hf⟩ | omega
    have c1 : abin .eql (.int .i64 t.k) (.int .i64 1) = some (.bool false) := eqlF (by omega)
    have c2 := eqlT h2
    have c3 := eqlT hn.1
    refine DR.go rfl ?_
    simp -dsimp only [SZ, EZ, astep, aun, AVal.cells, seval, c1]
    refine DR.ne rfl rfl ?_
    refine DR.go rfl ?_
    simp -dsimp only [SZ, EZ, astep, aun, AVal.cells, seval, c2]
    refine DR.ye rfl rfl ?_
    refine DR.nm rfl ?_
    refine DR.draw (by kernel_rfl) d71_8 ?_
    simp -dsimp only [m71_8, SZ, EZ, astep, aun, AVal.cells, seval, DS_nil, DS_cons, seesAll, staysAll, abit, List.getD_cons_zero, List.getD_cons_succ, AOp.quiet, AOp.reads, true_and, and_true, decide_true, decide_false, and_self, w4, m4, c3, q4]
    refine (g95 hn.2 H4).mono ?_
    rintro r H' ⟨rfl, he⟩
    obtain rfl := he.symm
    simp -dsimp only [SZ, EZ, astep, aun, AVal.cells, seval, DS_nil, DS_cons, seesAll, staysAll, abit, List.getD_cons_zero, List.getD_cons_succ, AOp.quiet, AOp.reads, true_and, and_true, decide_true, decide_false, and_self, w4, m4, c3, q4, Bool.not_false]
    refine (g96 t.f H4).mono ?_
    rintro r H' ⟨⟨z, rfl⟩, he⟩
    obtain rfl := he.symm
    simp -dsimp only [SZ, EZ, astep, aun, AVal.cells, seval, DS_nil, DS_cons, seesAll, staysAll, abit, List.getD_cons_zero, List.getD_cons_succ, AOp.quiet, AOp.reads, true_and, and_true, decide_true, decide_false, and_self, w4, m4, c3, q4, q5, Bool.not_false, s5, ← hH5]
    refine DR.nm rfl ?_
    exact DR.ret ⟨.tup [.agg (n3 t), .bool (!z)], by simp [aresult, ares, Env.get, l5], _, rfl⟩
theorem aeqs3 (a b c a' b' : Int) (d d' : Nat) : aeqs [1, 1, 1] [.int .i64 a, .int .i64 b, .int .u64 (d : Nat)] [.int .i64 a', .int .i64 b', .int .u64 (d' : Nat)] = some (a == a' && (b == b' && d == d')) := by
  have hd : (((d : Nat) : Int) == ((d' : Nat) : Int)) = (d == d') := by
    by_cases h : d = d'
    · subst h; simp
    · have : ¬ ((d : Int) = (d' : Int)) := by omega
      rw [beq_false_of_ne this, beq_false_of_ne h]
  simp only [aeqs, hd]
  cases a == a' <;> cases b == b' <;> cases d == d' <;> rfl
theorem g93 {a b : TM} (oa : a.ok) (ob : b.ok) (fa : fine a) (fb : fine b) (ka : a.k = 1 ∨ a.k = 2) (kb : b.k = 1 ∨ b.k = 2) (H : AHeap) : DCall Tryz.prog 105 [a.agg, b.agg] H fun r H' => r = .bool (a.k == b.k && (a.n == b.n && a.f == b.f)) ∧ H' = H := by
  have h : DCall Tryz.prog 105 [a.agg, b.agg] AHeap.empty fun r H' => ∃ z, r = .bool z ∧ z = (a.k == b.k && (a.n == b.n && a.f == b.f)) := by
    have hz : z3 = [.int .i64 0, .int .i64 0, .int .u64 0] := rfl
    obtain ⟨H1, hH1, g1, n1, f1⟩ := psh AHeap.empty (.cells 25 (TM.c5 a))
    obtain ⟨H2, hH2, g2, n2, f2⟩ := psh H1 (.cells 25 (TM.c5 b))
    have la := load_all (n := 5) ((f2 _ (by omega)).trans g1) rfl
    obtain ⟨H3, hH3, g3, n3', f3⟩ := psh H2 (.cells 88 z3)
    have s3 := store_all (n := 3) g3 (new := n3 a) rfl rfl rfl
    obtain ⟨H4, hH4, g4, n4, f4⟩ := upd g3 (.cells 88 (n3 a))
    have b4 : H4.get H1.next = some (.cells 25 (TM.c5 b)) := by rw [f4 _ (by omega), f3 _ (by omega)]; exact g2
    have lb := load_all (n := 5) b4 rfl
    obtain ⟨H5, hH5, g5, n5, f5⟩ := psh H4 (.cells 88 z3)
    have s5 := store_all (n := 3) g5 (new := n3 b) rfl rfl rfl
    obtain ⟨H6, hH6, g6, n6, f6⟩ := upd g5 (.cells 88 (n3 b))
    have a6 : H6.get H2.next = some (.cells 88 (n3 a)) := by rw [f6 _ (by omega), f5 _ (by omega)]; exact g4
    have x6 := load_all (n := 3) a6 rfl
    have y6 := load_all (n := 3) g6 rfl
    refine DCall.of_body (fn := Tryz.f105) (by kernel_rfl) c105 (by kernel_rfl) (by simp [f105]) ?_
    unfold f105
    simp only []
    refine DR.go rfl ?_
    simp -dsimp only [SZ, EZ, astep, aun, AVal.cells, seval, ← hH1, ← hH2]
    refine DR.go rfl ?_
    simp -dsimp only [SZ, EZ, astep, aun, AVal.cells, seval, la]
    refine (g58 oa fa ka H2).mono ?_
    rintro r H' ⟨⟨z, rfl⟩, he⟩
    obtain rfl := he.symm
    have iy0 : ([.agg (n3 a), .bool z] : List AVal)[0]? = some (.agg (n3 a)) := rfl
    have iy1 : ([.agg (n3 a), .bool z] : List AVal)[1]? = some (.bool z) := rfl
    simp -dsimp only [SZ, EZ, astep, aun, AVal.cells, seval, iy0, iy1, ← hz, ← hH3, s3, ← hH4]
    refine DR.go rfl ?_
    simp -dsimp only [SZ, EZ, astep, aun, AVal.cells, seval, lb]
    refine (g58 ob fb kb H4).mono ?_
    rintro r H' ⟨⟨z', rfl⟩, he⟩
    obtain rfl := he.symm
    have jy0 : ([.agg (n3 b), .bool z'] : List AVal)[0]? = some (.agg (n3 b)) := rfl
    have jy1 : ([.agg (n3 b), .bool z'] : List AVal)[1]? = some (.bool z') := rfl
    simp -dsimp only [SZ, EZ, astep, aun, AVal.cells, seval, jy0, jy1, ← hz, ← hH5, s5, ← hH6]
    refine DR.go rfl ?_
    simp -dsimp only [SZ, EZ, astep, aun, AVal.cells, seval, x6, y6, aeqs3 a.k a.n 0 b.k b.n a.f b.f]
    refine DR.nm rfl ?_
    exact DR.ret ⟨_, by simp [aresult, ares, Env.get] <;> rfl, _, rfl, rfl⟩
  exact (DCall.bools (TM.pures22 a b) h H).mono fun r H' ⟨⟨n, h1, h3⟩, h2⟩ => ⟨by rw [h1, h3], h2⟩
section
variable {u v : TM} {k k' : List AItem} {Q : Env → AHeap → Prop}
theorem loop94 (ou : u.ok) (ov : v.ok) (hlen : u.l.length = v.l.length) (ih : ∀ x ∈ u.l, ∀ y ∈ v.l, ∀ H, DCall Tryz.prog 70 [x.agg, y.agg] H fun r H' => r = .bool (samev x y) ∧ H' = H) (hk : aexitTo 0 k = some k')
    (hend : ∀ H, samevs u.l v.l = true → DR Tryz.prog (kof k106) 32 k' [] H Q)
    (hret : ∀ T H, T.get 6 = some (.bool false) → samevs u.l v.l = false → Q T H) :
    ∀ (e i : Nat) (H : AHeap), i + e = u.l.length → samevs u.l v.l = samevs (u.l.drop i) (v.l.drop i) → DR Tryz.prog (kof k106) 32 (.code l106_0 :: .inLoop l106_0 :: k) [(1, v.row), (2, .fn (.func 70) [] []), (15, u.row), (16, .int .i64 (u.l.length : Nat)), (17, .int .i64 (i : Nat))] H Q := by
  intro e
  induction e with
  | zero =>
    intro i H hi heq
    have hc : abin .lss (.int .i64 (i : Nat)) (.int .i64 (u.l.length : Nat)) = some (.bool false) := by simp [abin]; omega
    refine DR.go rfl ?_
    simp -dsimp only [SZ, EZ, astep, aun, AVal.cells, seval, hc]
    refine DR.ne rfl rfl ?_
    refine DR.nm rfl ?_
    refine DR.exit hk ?_
    rw [List.drop_eq_nil_of_le (by omega), List.drop_eq_nil_of_le (by omega)] at heq
    exact DR.only [] (hend H heq)
  | succ e ih2 =>
    intro i H hi heq
    have hc : abin .lss (.int .i64 (i : Nat)) (.int .i64 (u.l.length : Nat)) = some (.bool true) := by simp [abin]; omega
    have hlt : i < u.l.length := by omega
    have hx : u.l[i]? = some u.l[i] := List.getElem?_eq_getElem hlt
    have ra := TM.row_at ou hx H
    have la := TM.load u.l[i] (TM.flat (u.l.drop (i + 1))) H
    have hle := TM.len_le ou
    have hadd : abin .add (.int .i64 (i : Nat)) (.int .i64 1) = some (.int .i64 ((i + 1 : Nat) : Int)) := add_nat (b := 1) (by omega)
    obtain ⟨H1, hH1, g1, n1, f1⟩ := psh H (.cells 25 [.int .i64 0, .int .i64 0, .flt .f64 0, .str ⟨#[]⟩, .nils])
    have st : astore H1 5 (.ptr H.next 0) (AVal.agg (TM.c5 u.l[i])) = some (H1.set H.next (.cells 25 (TM.c5 u.l[i]))) := store_all (n := 5) (new := TM.c5 u.l[i]) g1 rfl (TM.ones5 _) rfl
    obtain ⟨H2, hH2, g2, n2, f2⟩ := upd g1 (.cells 25 (TM.c5 u.l[i]))
    have hdu : u.l.drop i = u.l[i] :: u.l.drop (i + 1) := List.drop_eq_getElem_cons hlt
    have hv : i < v.l.length := by omega
    have hy : v.l[i]? = some v.l[i] := List.getElem?_eq_getElem hv
    have rb := TM.row_at ov hy H2
    have lb := TM.load v.l[i] (TM.flat (v.l.drop (i + 1))) H2
    obtain ⟨H3, hH3, g3, n3, f3⟩ := psh H2 (.cells 25 [.int .i64 0, .int .i64 0, .flt .f64 0, .str ⟨#[]⟩, .nils])
    have st3 : astore H3 5 (.ptr H2.next 0) (AVal.agg (TM.c5 v.l[i])) = some (H3.set H2.next (.cells 25 (TM.c5 v.l[i]))) := store_all (n := 5) (new := TM.c5 v.l[i]) g3 rfl (TM.ones5 _) rfl
    obtain ⟨H4, hH4, g4, n4, f4⟩ := upd g3 (.cells 25 (TM.c5 v.l[i]))
    have x4 : H4.get H.next = some (.cells 25 (TM.c5 u.l[i])) := by rw [f4 _ (by omega), f3 _ (by omega)]; exact g2
    have lx := load_all (n := 5) x4 rfl
    have ly := load_all (n := 5) g4 rfl
    have hdv : v.l.drop i = v.l[i] :: v.l.drop (i + 1) := List.drop_eq_getElem_cons hv
    rw [hdu, hdv, samevs] at heq
    refine DR.go rfl ?_
    simp -dsimp only [SZ, EZ, astep, aun, AVal.cells, seval, hc]
    refine DR.ye rfl rfl ?_
    refine DR.go rfl ?_
    simp -dsimp only [SZ, EZ, astep, aun, AVal.cells, seval, ra, la, ← hH1, st, ← hH2]
    refine DR.go rfl ?_
    simp -dsimp only [SZ, EZ, astep, aun, AVal.cells, seval, rb, lb, ← hH3, st3, ← hH4]
    refine DR.go rfl ?_
    simp -dsimp only [SZ, EZ, astep, aun, AVal.cells, seval, lx, ly, List.append_nil, List.nil_append]
    refine (ih _ (List.getElem_mem hlt) _ (List.getElem_mem hv) H4).mono ?_
    rintro r H' ⟨rfl, he⟩
    obtain rfl := he.symm
    cases hs : samev u.l[i] v.l[i] with
    | true =>
      rw [hs, Bool.true_and] at heq
      simp -dsimp only [SZ, EZ, astep, aun, AVal.cells, seval, Bool.not_true]
      refine DR.ne rfl rfl ?_
      refine DR.go rfl ?_
      simp -dsimp only [SZ, EZ, astep, aun, AVal.cells, seval, hadd]
      refine DR.nm rfl ?_
      refine DR.inLoop ?_
      exact ih2 (i + 1) H4 (by omega) heq
    | false =>
      rw [hs, Bool.false_and] at heq
      simp -dsimp only [SZ, EZ, astep, aun, AVal.cells, seval, Bool.not_false]
      refine DR.ye rfl rfl ?_
      refine DR.go rfl ?_
      simp -dsimp only [SZ, EZ, astep, aun, AVal.cells, seval]
      refine DR.nm rfl ?_
      exact DR.ret (hret _ _ rfl heq)
end
theorem samevs_ne : ∀ {l m : List TM}, l.length ≠ m.length → samevs l m = false
  | l, m, h => by
    cases hs : samevs l m with
    | false => rfl
    | true => exact absurd (samevs_len hs) h
theorem g94 {u v : TM} (ou : u.ok) (ov : v.ok) (ih : ∀ x ∈ u.l, ∀ y ∈ v.l, ∀ H, DCall Tryz.prog 70 [x.agg, y.agg] H fun r H' => r = .bool (samev x y) ∧ H' = H) (H : AHeap) :
    DCall Tryz.prog 106 [u.row, v.row, .fn (.func 70) [] []] H fun r H' => ∃ z, r = .bool z ∧ z = samevs u.l v.l := by
  have hlu := TM.lenT ou H
  have hlv := TM.lenT ov H
  refine DCall.of_body (fn := Tryz.f106) (by kernel_rfl) c106 (by kernel_rfl) (by simp [f106]) ?_
  unfold f106
  simp only []
  refine DR.go rfl ?_
  simp -dsimp only [SZ, EZ, astep, aun, AVal.cells, seval]
  by_cases h : u.l.length = v.l.length
  · have c : abin .neq (.int .i64 (u.l.length : Nat)) (.int .i64 (v.l.length : Nat)) = some (.bool false) := neqF (by omega)
    refine DR.go rfl ?_
    simp -dsimp only [SZ, EZ, astep, aun, AVal.cells, seval, hlu, hlv, c]
    refine DR.ne rfl rfl ?_
    refine DR.go rfl ?_
    simp -dsimp only [SZ, EZ, astep, aun, AVal.cells, seval, hlu]
    refine DR.nm rfl ?_
    refine DR.loop ?_
    refine loop94 ou ov h ih rfl (fun H8 heq => ?_) (fun T H8 hT hs => ⟨.bool false, by simp [aresult, ares, hT], _, rfl, hs.symm⟩) u.l.length 0 H (by omega) (by simp)
    refine DR.go rfl ?_
    simp -dsimp only [SZ, EZ, astep, aun, AVal.cells, seval]
    refine DR.nm rfl ?_
    exact DR.ret ⟨_, by simp [aresult, ares, Env.get] <;> rfl, _, rfl, heq.symm⟩
  · have c : abin .neq (.int .i64 (u.l.length : Nat)) (.int .i64 (v.l.length : Nat)) = some (.bool true) := neqT (by omega)
    refine DR.go rfl ?_
    simp -dsimp only [SZ, EZ, astep, aun, AVal.cells, seval, hlu, hlv, c]
    refine DR.ye rfl rfl ?_
    refine DR.go rfl ?_
    simp -dsimp only [SZ, EZ, astep, aun, AVal.cells, seval]
    refine DR.nm rfl ?_
    exact DR.ret ⟨_, by simp [aresult, ares, Env.get] <;> rfl, _, rfl, (samevs_ne h).symm⟩
theorem DCall.boolsF {u v : TM} {f g : FuncId} {p : Bool} (h : ∀ H, DCall Tryz.prog f [u.row, v.row, .fn (.func g) [] []] H fun r H' => ∃ z, r = .bool z ∧ z = p) (H : AHeap) : DCall Tryz.prog f [u.row, v.row, .fn (.func g) [] []] H fun r H' => r = .bool p ∧ H' = H := by
  have hp : AVal.pures [u.row, v.row, .fn (.func g) [] []] = true := by
    have h1 := TM.purer (u := u)
    have h2 := TM.purer (u := v)
    simp only [AVal.pures, Bool.and_true] at h1 h2 ⊢
    rw [h1, h2]; rfl
  exact (DCall.bools hp (h AHeap.empty) H).mono fun r H' ⟨⟨n, h1, h3⟩, h2⟩ => ⟨by rw [h1, h3], h2⟩
theorem g57 : ∀ a : TM, a.ok → fine a → ∀ b : TM, b.ok → fine b → ∀ H : AHeap, DCall Tryz.prog 70 [a.agg, b.agg] H fun r H' => r = .bool (samev a b) ∧ H' = H := by
  refine TM.all fun a ih oa fa b ob fb H => ?_
  have ih' : ∀ x ∈ a.l, ∀ y ∈ b.l, ∀ H, DCall Tryz.prog 70 [x.agg, y.agg] H fun r H' => r = .bool (samev x y) ∧ H' = H := fun x hx y hy H =>
    ih x hx (TM.oks_mem (TM.ok_oks oa) x hx) (fines_iff.mp ((fine_eq a).mp fa).2 x hx) y (TM.oks_mem (TM.ok_oks ob) y hy) (fines_iff.mp ((fine_eq b).mp fb).2 y hy) H
  have h : DCall Tryz.prog 70 [a.agg, b.agg] AHeap.empty fun r H' => ∃ n, r = .bool n ∧ n = samev a b := by
    obtain ⟨H1, hH1, g1, n1, f1⟩ := psh AHeap.empty (.cells 25 (TM.c5 a))
    obtain ⟨H2, hH2, g2, n2, f2⟩ := psh H1 (.cells 25 (TM.c5 b))
    have a2 := (f2 _ (by omega)).trans g1
    have la := load_all (n := 5) a2 rfl
    have lb := load_all (n := 5) g2 rfl
    have a0 := load_cell a2 (o := 0) (v := .int .i64 a.k) rfl
    have a1 := load_cell a2 (o := 1) (v := .int .i64 a.n) rfl
    have a3 := load_cell a2 (o := 3) (v := .str a.s) rfl
    have a4 := load_cell a2 (o := 4) (v := a.row) rfl
    have b0 := load_cell g2 (o := 0) (v := .int .i64 b.k) rfl
    have b1 := load_cell g2 (o := 1) (v := .int .i64 b.n) rfl
    have b3 := load_cell g2 (o := 3) (v := .str b.s) rfl
    have b4 := load_cell g2 (o := 4) (v := b.row) rfl
    rw [samev_eq]
    refine DCall.of_body (fn := Tryz.f70) (by kernel_rfl) c70 (by kernel_rfl) (by simp [f70]) ?_
    unfold f70
    simp only []
    refine DR.go rfl ?_
    simp -dsimp only [SZ, EZ, astep, aun, AVal.cells, seval, ← hH1, ← hH2]
    by_cases hk : a.k = b.k
    · have c := neqF hk
      have hkb : (a.k == b.k) = true := by simp [hk]
      rw [hkb, Bool.true_and]
      refine DR.go rfl ?_
      simp -dsimp only [SZ, EZ, astep, aun, AVal.cells, seval, a0, b0, c]
      refine DR.ne rfl rfl ?_
      refine DR.go rfl ?_
      simp -dsimp only [SZ, EZ, astep, aun, AVal.cells, seval, a0]
      by_cases h12 : a.k = 1 ∨ a.k = 2
      · rw [if_pos h12]
        rcases h12 with h1 | h2
        · have c1 := eqlT h1
          refine DR.go rfl ?_
          simp -dsimp only [SZ, EZ, astep, aun, AVal.cells, seval, c1]
          refine DR.ye rfl rfl ?_
          refine DR.ye rfl rfl ?_
          refine DR.go rfl ?_
          simp -dsimp only [SZ, EZ, astep, aun, AVal.cells, seval, la, lb]
          refine (g93 oa ob fa fb (.inl h1) (.inl (by omega)) H2).mono ?_
          rintro r H' ⟨rfl, he⟩
          obtain rfl := he.symm
          simp -dsimp only [SZ, EZ, astep, aun, AVal.cells, seval]
          refine DR.nm rfl ?_
          exact DR.ret ⟨_, by simp [aresult, ares, Env.get] <;> rfl, _, rfl, by rw [hkb, Bool.true_and]⟩
        · have c1 : abin .eql (.int .i64 a.k) (.int .i64 1) = some (.bool false) := eqlF (by omega)
          have c2 := eqlT h2
          refine DR.go rfl ?_
          simp -dsimp only [SZ, EZ, astep, aun, AVal.cells, seval, c1]
          refine DR.ne rfl rfl ?_
          refine DR.go rfl ?_
          simp -dsimp only [SZ, EZ, astep, aun, AVal.cells, seval, c2]
          refine DR.ye rfl rfl ?_
          refine DR.go rfl ?_
          simp -dsimp only [SZ, EZ, astep, aun, AVal.cells, seval, la, lb]
          refine (g93 oa ob fa fb (.inr h2) (.inr (by omega)) H2).mono ?_
          rintro r H' ⟨rfl, he⟩
          obtain rfl := he.symm
          simp -dsimp only [SZ, EZ, astep, aun, AVal.cells, seval]
          refine DR.nm rfl ?_
          exact DR.ret ⟨_, by simp [aresult, ares, Env.get] <;> rfl, _, rfl, by rw [hkb, Bool.true_and]⟩
      rw [if_neg h12]
      have c1 : abin .eql (.int .i64 a.k) (.int .i64 1) = some (.bool false) := eqlF (by omega)
      have c2 : abin .eql (.int .i64 a.k) (.int .i64 2) = some (.bool false) := eqlF (by omega)
      refine DR.go rfl ?_
      simp -dsimp only [SZ, EZ, astep, aun, AVal.cells, seval, c1]
      refine DR.ne rfl rfl ?_
      refine DR.go rfl ?_
      simp -dsimp only [SZ, EZ, astep, aun, AVal.cells, seval, c2]
      refine DR.ne rfl rfl ?_
      by_cases hn : a.n = b.n
      · have d1 := eqlT hn
        have hnb : (a.n == b.n) = true := by simp [hn]
        rw [hnb, Bool.true_and]
        have d2 : abin .eql (.str a.s) (.str b.s) = some (.bool (a.s.toList == b.s.toList)) := rfl
        cases hs : (a.s.toList == b.s.toList) with
        | true =>
          rw [hs] at d2
          refine DR.go rfl ?_
          simp -dsimp only [SZ, EZ, astep, aun, AVal.cells, seval, a1, b1, d1, a3, b3, d2, a4, b4, List.append_nil, List.nil_append]
          refine (DCall.boolsF (fun H => g94 oa ob ih' H) H2).mono ?_
          rintro r H' ⟨rfl, he⟩
          obtain rfl := he.symm
          simp -dsimp only [SZ, EZ, astep, aun, AVal.cells, seval]
          refine DR.nm rfl ?_
          exact DR.ret ⟨_, by simp [aresult, ares, Env.get] <;> rfl, _, rfl, by rw [Bool.true_and]⟩
        | false =>
          rw [hs] at d2
          refine DR.go rfl ?_
          simp -dsimp only [SZ, EZ, astep, aun, AVal.cells, seval, a1, b1, d1, a3, b3, d2]
          refine DR.nm rfl ?_
          exact DR.ret ⟨_, by simp [aresult, ares, Env.get] <;> rfl, _, rfl, rfl⟩
      · have d1 := eqlF hn
        have hnb : (a.n == b.n) = false := by simp [hn]
        rw [hnb, Bool.false_and]
        refine DR.go rfl ?_
        simp -dsimp only [SZ, EZ, astep, aun, AVal.cells, seval, a1, b1, d1]
        refine DR.nm rfl ?_
        exact DR.ret ⟨_, by simp [aresult, ares, Env.get] <;> rfl, _, rfl, rfl⟩
    · have c := neqT hk
      have hkb : (a.k == b.k) = false := by simp [hk]
      rw [hkb, Bool.false_and]
      refine DR.go rfl ?_
      simp -dsimp only [SZ, EZ, astep, aun, AVal.cells, seval, a0, b0, c]
      refine DR.ye rfl rfl ?_
      refine DR.go rfl ?_
      simp -dsimp only [SZ, EZ, astep, aun, AVal.cells, seval]
      refine DR.nm rfl ?_
      exact DR.ret ⟨_, by simp [aresult, ares, Env.get] <;> rfl, _, rfl, rfl⟩
  exact (DCall.bools (TM.pures22 a b) h H).mono fun r H' ⟨⟨n, h1, h3⟩, h2⟩ => ⟨by rw [h1, h3], h2⟩
theorem g33 {a b : TM} (oa : a.ok) (ob : b.ok) (ra : right a) (rb : right b) (H : AHeap) : DCall Tryz.prog 42 [a.agg, b.agg] H fun r H' => r = .tup [.bool (samev a b), .int .i64 0] ∧ H' = H := by
  refine DCall.closed (sz := szs) (TM.pures22 a b) (Q := fun r _ => r = .tup [.bool (samev a b), .int .i64 0]) (Q' := fun r => r = .tup [.bool (samev a b), .int .i64 0]) ?_ (fun r H1 e => ⟨5, r, by rw [e]; rfl, e⟩) H
  obtain ⟨H1, hH1, g1, n1, f1⟩ := psh AHeap.empty (.cells 25 (TM.c5 a))
  obtain ⟨H2, hH2, g2, n2, f2⟩ := psh H1 (.cells 25 (TM.c5 b))
  have a2 := (f2 _ (by omega)).trans g1
  have la := load_all (n := 5) a2 rfl
  have lb := load_all (n := 5) g2 rfl
  refine DCall.of_body (fn := Tryz.f42) (by kernel_rfl) c42 (by kernel_rfl) (by simp [f42]) ?_
  unfold f42
  simp only []
  refine DR.go rfl ?_
  simp -dsimp only [SZ, EZ, astep, aun, AVal.cells, seval, ← hH1, ← hH2]
  refine DR.go rfl ?_
  simp -dsimp only [SZ, EZ, astep, aun, AVal.cells, seval, la, lb]
  refine (g54 oa ob ra rb H2).mono ?_
  rintro r H' ⟨rfl, he⟩
  obtain rfl := he.symm
  simp -dsimp only [SZ, EZ, astep, aun, AVal.cells, seval]
  refine DR.go rfl ?_
  simp -dsimp only [SZ, EZ, astep, aun, AVal.cells, seval, neq_int]
  refine DR.ne rfl rfl ?_
  refine DR.go rfl ?_
  simp -dsimp only [SZ, EZ, astep, aun, AVal.cells, seval, la, lb]
  refine (g57 a oa ra.2.2 b ob rb.2.2 H2).mono ?_
  rintro r H' ⟨rfl, he⟩
  obtain rfl := he.symm
  simp -dsimp only [SZ, EZ, astep, aun, AVal.cells, seval]
  refine DR.nm rfl ?_
  exact DR.ret ⟨_, by simp [aresult, ares, Env.get] <;> rfl, rfl⟩
end Go.Am.Rl

/- The operators that compare: what each tells of two right terms. -/
namespace Go.Am.Rl
open Go.Proofs

/-- Two terms in a block. -/
def SL2 (H : AHeap) (v : AVal) (a b : TM) : Prop := ∃ id cap, v = .sl id 0 2 cap ∧ H.get id = some (.cells 25 (TM.flat [a, b]))
theorem SL2.gro {H H' : AHeap} {v : AVal} {a b : TM} (h : SL2 H v a b) (g : Gro H H') : SL2 H' v a b := by
  obtain ⟨id, cap, rfl, h⟩ := h
  exact ⟨id, cap, rfl, g.get h⟩
theorem flat2 (a b : TM) : TM.flat [a, b] = TM.c5 a ++ TM.c5 b := by simp only [TM.flat, List.append_nil]; rw [TM.cells_eq, TM.cells_eq]
theorem SL2.at0 {H : AHeap} {v : AVal} {a b : TM} (h : SL2 H v a b) : ∃ p, aiaddr H 5 v (.int .i64 0) = some p ∧ aload H (some 5) p = some (.agg (TM.c5 a)) := by
  obtain ⟨id, cap, rfl, h⟩ := h
  refine ⟨.ptr id 0, rfl, ?_⟩
  rw [flat2] at h
  simp only [aload, cellsAt, h]
  rfl
theorem SL2.at1 {H : AHeap} {v : AVal} {a b : TM} (h : SL2 H v a b) : ∃ p, aiaddr H 5 v (.int .i64 1) = some p ∧ aload H (some 5) p = some (.agg (TM.c5 b)) := by
  obtain ⟨id, cap, rfl, h⟩ := h
  refine ⟨.ptr id 5, rfl, ?_⟩
  rw [flat2] at h
  simp only [aload, cellsAt, h]
  rfl
theorem SL2.len {H : AHeap} {v : AVal} {a b : TM} (h : SL2 H v a b) (H' : AHeap) : alenT H' 1 v = some 2 := by
  obtain ⟨id, cap, rfl, h⟩ := h; rfl
theorem SL2.one {H : AHeap} {v : AVal} {a b : TM} (h : SL2 H v a b) : v.one = true ∧ v.cells = [v] := by
  obtain ⟨id, cap, rfl, h⟩ := h; exact ⟨rfl, rfl⟩
abbrev tf (b : Bool) : TM := atm (if b then sTrue else sFalse)
theorem tf_ok (b : Bool) : (tf b).ok := by cases b <;> exact atm_ok (by decide)
/-- It tells an atom that is true or false. -/
def TellsB (H : AHeap) (p : Bool) (r : AVal) (H' : AHeap) : Prop := Gro H H' ∧ r = (tf p).agg
section
variable {a b : TM} {v : AVal}
theorem g38 {g : FuncId} {p : Int → Bool} (oa : a.ok) (ob : b.ok) (ra : right a) (rb : right b) (hg : ∀ n H, DCall Tryz.prog g [.int .i64 n] H fun r H' => r = .bool (p n) ∧ H' = H)
    {H : AHeap} {cid id : Nat} (hv : SL2 H v a b) (hc : H.get cid = some (.cells 53 [v, .nilf])) (hi : H.get id = some (.cells 70 [fnv g])) :
    DCall Tryz.prog 38 [.ptr cid 0, .ptr id 0] H (TellsB H (p (ord a b))) := by
  obtain ⟨H1, hH1, g1, n1, f1⟩ := psh H (.cells 25 z25)
  have hz : z25 = [.int .i64 0, .int .i64 0, .flt .f64 0, .str ⟨#[]⟩, .nils] := rfl
  have b1 : Gro H H1 := ⟨by omega, f1⟩
  have hv1 := hv.gro b1
  have lc := load_cell (b1.get hc) (o := 0) (v := v) rfl
  have li := load_cell (b1.get hi) (o := 0) (v := fnv g) rfl
  obtain ⟨p0, i0, l0⟩ := hv1.at0
  obtain ⟨p1, i1, l1⟩ := hv1.at1
  have s1 := store_all (n := 5) g1 (new := TM.c5 (tf (p (ord a b)))) rfl (TM.ones5 _) rfl
  obtain ⟨H2, hH2, g2, n2, f2⟩ := upd g1 (.cells 25 (TM.c5 (tf (p (ord a b)))))
  have l2 := load_all (n := 5) g2 rfl
  have ix0 : ([.int .i64 (ord a b), .int .i64 0] : List AVal)[0]? = some (.int .i64 (ord a b)) := rfl
  have ix1 : ([.int .i64 (ord a b), .int .i64 0] : List AVal)[1]? = some (.int .i64 0) := rfl
  refine DCall.of_body (fn := Tryz.f38) (by kernel_rfl) c38 (by kernel_rfl) (by simp [f38]) ?_
  unfold f38
  simp only []
  refine DR.go rfl ?_
  simp -dsimp only [SZ, EZ, astep, aun, AVal.cells, seval, ← hz, ← hH1]
  refine DR.nm rfl ?_
  refine DR.draw (by kernel_rfl) d38_1 ?_
  simp -dsimp only [m38_1, SZ, EZ, astep, aun, AVal.cells, seval, DS_nil, DS_cons, seesAll, staysAll, abit, List.getD_cons_zero, List.getD_cons_succ, AOp.quiet, AOp.reads, true_and, and_true, decide_true, decide_false, and_self, lc, i0, l0, i1, l1]
  refine (g29 oa ob ra rb H1).mono ?_
  rintro r H' ⟨rfl, he⟩
  obtain rfl := he.symm
  simp -dsimp only [SZ, EZ, astep, aun, AVal.cells, seval, DS_nil, DS_cons, seesAll, staysAll, abit, List.getD_cons_zero, List.getD_cons_succ, AOp.quiet, AOp.reads, true_and, and_true, decide_true, decide_false, and_self, lc, i0, l0, i1, l1, ix0, ix1]
  refine DR.go rfl ?_
  simp -dsimp only [SZ, EZ, astep, aun, AVal.cells, seval, li, List.append_nil, List.nil_append]
  refine (hg (ord a b) H1).mono ?_
  rintro r H' ⟨rfl, he⟩
  obtain rfl := he.symm
  simp -dsimp only [SZ, EZ, astep, aun, AVal.cells, seval]
  refine (g30 (p (ord a b)) H1).mono ?_
  rintro r H' ⟨rfl, he⟩
  obtain rfl := he.symm
  simp -dsimp only [SZ, EZ, astep, aun, AVal.cells, seval, s1, ← hH2]
  refine DR.nm rfl ?_
  exact DR.ret ⟨(tf (p (ord a b))).agg, by simp [aresult, ares, Env.get, l2], ⟨by omega, fun j hj => by rw [f2 j (by omega), f1 j hj]⟩, rfl⟩
theorem g41 {w : Bool} (oa : a.ok) (ob : b.ok) (ra : right a) (rb : right b)
    {H : AHeap} {cid id : Nat} (hv : SL2 H v a b) (hc : H.get cid = some (.cells 53 [v, .nilf])) (hi : H.get id = some (.cells 4 [.bool w])) :
    DCall Tryz.prog 41 [.ptr cid 0, .ptr id 0] H (TellsB H (samev a b == w)) := by
  obtain ⟨H1, hH1, g1, n1, f1⟩ := psh H (.cells 25 z25)
  have hz : z25 = [.int .i64 0, .int .i64 0, .flt .f64 0, .str ⟨#[]⟩, .nils] := rfl
  have b1 : Gro H H1 := ⟨by omega, f1⟩
  have hv1 := hv.gro b1
  have lc := load_cell (b1.get hc) (o := 0) (v := v) rfl
  have li := load_cell (b1.get hi) (o := 0) (v := .bool w) rfl
  obtain ⟨p0, i0, l0⟩ := hv1.at0
  obtain ⟨p1, i1, l1⟩ := hv1.at1
  have s1 := store_all (n := 5) g1 (new := TM.c5 (tf (samev a b == w))) rfl (TM.ones5 _) rfl
  obtain ⟨H2, hH2, g2, n2, f2⟩ := upd g1 (.cells 25 (TM.c5 (tf (samev a b == w))))
  have l2 := load_all (n := 5) g2 rfl
  have ix0 : ([.bool (samev a b), .int .i64 0] : List AVal)[0]? = some (.bool (samev a b)) := rfl
  have ix1 : ([.bool (samev a b), .int .i64 0] : List AVal)[1]? = some (.int .i64 0) := rfl
  have hx : (false ^^ (samev a b == w)) = (samev a b == w) := by cases (samev a b == w) <;> rfl
  refine DCall.of_body (fn := Tryz.f41) (by kernel_rfl) c41 (by kernel_rfl) (by simp [f41]) ?_
  unfold f41
  simp only []
  refine DR.go rfl ?_
  simp -dsimp only [SZ, EZ, astep, aun, AVal.cells, seval, ← hz, ← hH1]
  refine DR.nm rfl ?_
  refine DR.draw (by kernel_rfl) d41_1 ?_
  simp -dsimp only [m41_1, SZ, EZ, astep, aun, AVal.cells, seval, DS_nil, DS_cons, seesAll, staysAll, abit, List.getD_cons_zero, List.getD_cons_succ, AOp.quiet, AOp.reads, true_and, and_true, decide_true, decide_false, and_self, lc, i0, l0, i1, l1]
  refine (g33 oa ob ra rb H1).mono ?_
  rintro r H' ⟨rfl, he⟩
  obtain rfl := he.symm
  simp -dsimp only [SZ, EZ, astep, aun, AVal.cells, seval, DS_nil, DS_cons, seesAll, staysAll, abit, List.getD_cons_zero, List.getD_cons_succ, AOp.quiet, AOp.reads, true_and, and_true, decide_true, decide_false, and_self, lc, i0, l0, i1, l1, ix0, ix1]
  refine DR.go rfl ?_
  simp -dsimp only [SZ, EZ, astep, aun, AVal.cells, seval, li, hx]
  refine (g30 (samev a b == w) H1).mono ?_
  rintro r H' ⟨rfl, he⟩
  obtain rfl := he.symm
  simp -dsimp only [SZ, EZ, astep, aun, AVal.cells, seval, s1, ← hH2]
  refine DR.nm rfl ?_
  exact DR.ret ⟨(tf (samev a b == w)).agg, by simp [aresult, ares, Env.get, l2], ⟨by omega, fun j hj => by rw [f2 j (by omega), f1 j hj]⟩, rfl⟩
end
theorem g37 {g : FuncId} (H : AHeap) : DCall Tryz.prog 37 [fnv g] H fun r H' => Gro H H' ∧ ∃ id, r = .fn (.func 38) [] [.ptr id 0] ∧ H'.get id = some (.cells 70 [fnv g]) := by
  obtain ⟨H1, hH1, g1, n1, f1⟩ := psh H (.cells 70 [fnv g])
  have hcell : (fnv g).cells = [fnv g] := rfl
  refine DCall.of_body (fn := Tryz.f37) (by kernel_rfl) c37 (by kernel_rfl) (by simp [f37]) ?_
  unfold f37
  simp only []
  refine DR.go rfl ?_
  simp -dsimp only [SZ, EZ, astep, aun, AVal.cells, seval, hcell, ← hH1]
  refine DR.go rfl ?_
  simp -dsimp only [SZ, EZ, astep, aun, AVal.cells, seval]
  refine DR.nm rfl ?_
  exact DR.ret ⟨_, by simp [aresult, ares, Env.get] <;> rfl, ⟨by omega, f1⟩, _, rfl, g1⟩
theorem g40 {w : Bool} (H : AHeap) : DCall Tryz.prog 40 [.bool w] H fun r H' => Gro H H' ∧ ∃ id, r = .fn (.func 41) [] [.ptr id 0] ∧ H'.get id = some (.cells 4 [.bool w]) := by
  obtain ⟨H1, hH1, g1, n1, f1⟩ := psh H (.cells 4 [.bool w])
  have hcell : (AVal.bool w).cells = [.bool w] := rfl
  refine DCall.of_body (fn := Tryz.f40) (by kernel_rfl) c40 (by kernel_rfl) (by simp [f40]) ?_
  unfold f40
  simp only []
  refine DR.go rfl ?_
  simp -dsimp only [SZ, EZ, astep, aun, AVal.cells, seval, hcell, ← hH1]
  refine DR.go rfl ?_
  simp -dsimp only [SZ, EZ, astep, aun, AVal.cells, seval]
  refine DR.nm rfl ?_
  exact DR.ret ⟨_, by simp [aresult, ares, Env.get] <;> rfl, ⟨by omega, f1⟩, _, rfl, g1⟩
theorem g46_ (n : Int) (H : AHeap) : DCall Tryz.prog 46 [.int .i64 n] H fun r H' => r = .bool (decide (n = 0)) ∧ H' = H := by
  have c : abin .eql (.int .i64 n) (.int .i64 0) = some (.bool (decide (n = 0))) := by exact eql_dec _ _
  refine DCall.of_body (fn := Tryz.f46) (by kernel_rfl) c46 (by kernel_rfl) (by simp [f46]) ?_
  unfold f46
  simp only []
  refine DR.go rfl ?_
  simp -dsimp only [SZ, EZ, astep, aun, AVal.cells, seval]
  refine DR.go rfl ?_
  simp -dsimp only [SZ, EZ, astep, aun, AVal.cells, seval, c]
  refine DR.nm rfl ?_
  exact DR.ret ⟨_, by simp [aresult, ares, Env.get] <;> rfl, rfl, rfl⟩
theorem g47_ (n : Int) (H : AHeap) : DCall Tryz.prog 47 [.int .i64 n] H fun r H' => r = .bool (decide (n ≠ 0)) ∧ H' = H := by
  have c : abin .neq (.int .i64 n) (.int .i64 0) = some (.bool (decide (n ≠ 0))) := by exact neq_dec _ _
  refine DCall.of_body (fn := Tryz.f47) (by kernel_rfl) c47 (by kernel_rfl) (by simp [f47]) ?_
  unfold f47
  simp only []
  refine DR.go rfl ?_
  simp -dsimp only [SZ, EZ, astep, aun, AVal.cells, seval]
  refine DR.go rfl ?_
  simp -dsimp only [SZ, EZ, astep, aun, AVal.cells, seval, c]
  refine DR.nm rfl ?_
  exact DR.ret ⟨_, by simp [aresult, ares, Env.get] <;> rfl, rfl, rfl⟩
theorem g48_ (n : Int) (H : AHeap) : DCall Tryz.prog 48 [.int .i64 n] H fun r H' => r = .bool (decide (n ≤ 0)) ∧ H' = H := by
  have c : abin .leq (.int .i64 n) (.int .i64 0) = some (.bool (decide (n ≤ 0))) := by rfl
  refine DCall.of_body (fn := Tryz.f48) (by kernel_rfl) c48 (by kernel_rfl) (by simp [f48]) ?_
  unfold f48
  simp only []
  refine DR.go rfl ?_
  simp -dsimp only [SZ, EZ, astep, aun, AVal.cells, seval]
  refine DR.go rfl ?_
  simp -dsimp only [SZ, EZ, astep, aun, AVal.cells, seval, c]
  refine DR.nm rfl ?_
  exact DR.ret ⟨_, by simp [aresult, ares, Env.get] <;> rfl, rfl, rfl⟩
theorem g49_ (n : Int) (H : AHeap) : DCall Tryz.prog 49 [.int .i64 n] H fun r H' => r = .bool (decide (n < 0)) ∧ H' = H := by
  have c : abin .lss (.int .i64 n) (.int .i64 0) = some (.bool (decide (n < 0))) := by rfl
  refine DCall.of_body (fn := Tryz.f49) (by kernel_rfl) c49 (by kernel_rfl) (by simp [f49]) ?_
  unfold f49
  simp only []
  refine DR.go rfl ?_
  simp -dsimp only [SZ, EZ, astep, aun, AVal.cells, seval]
  refine DR.go rfl ?_
  simp -dsimp only [SZ, EZ, astep, aun, AVal.cells, seval, c]
  refine DR.nm rfl ?_
  exact DR.ret ⟨_, by simp [aresult, ares, Env.get] <;> rfl, rfl, rfl⟩
theorem g50_ (n : Int) (H : AHeap) : DCall Tryz.prog 50 [.int .i64 n] H fun r H' => r = .bool (decide (0 ≤ n)) ∧ H' = H := by
  have c : abin .geq (.int .i64 n) (.int .i64 0) = some (.bool (decide (0 ≤ n))) := by rfl
  refine DCall.of_body (fn := Tryz.f50) (by kernel_rfl) c50 (by kernel_rfl) (by simp [f50]) ?_
  unfold f50
  simp only []
  refine DR.go rfl ?_
  simp -dsimp only [SZ, EZ, astep, aun, AVal.cells, seval]
  refine DR.go rfl ?_
  simp -dsimp only [SZ, EZ, astep, aun, AVal.cells, seval, c]
  refine DR.nm rfl ?_
  exact DR.ret ⟨_, by simp [aresult, ares, Env.get] <;> rfl, rfl, rfl⟩
theorem g51_ (n : Int) (H : AHeap) : DCall Tryz.prog 51 [.int .i64 n] H fun r H' => r = .bool (decide (0 < n)) ∧ H' = H := by
  have c : abin .gtr (.int .i64 n) (.int .i64 0) = some (.bool (decide (0 < n))) := by rfl
  refine DCall.of_body (fn := Tryz.f51) (by kernel_rfl) c51 (by kernel_rfl) (by simp [f51]) ?_
  unfold f51
  simp only []
  refine DR.go rfl ?_
  simp -dsimp only [SZ, EZ, astep, aun, AVal.cells, seval]
  refine DR.go rfl ?_
  simp -dsimp only [SZ, EZ, astep, aun, AVal.cells, seval, c]
  refine DR.nm rfl ?_
  exact DR.ret ⟨_, by simp [aresult, ares, Env.get] <;> rfl, rfl, rfl⟩
abbrev s_eq : ByteArray := ⟨#[61, 61]⟩
abbrev s_ne : ByteArray := ⟨#[47, 61]⟩
abbrev s_le : ByteArray := ⟨#[61, 60]⟩
abbrev s_lt : ByteArray := ⟨#[60]⟩
abbrev s_ge : ByteArray := ⟨#[62, 61]⟩
abbrev s_gt : ByteArray := ⟨#[62]⟩
abbrev s_same : ByteArray := ⟨#[61, 58, 61]⟩
abbrev s_diff : ByteArray := ⟨#[61, 47, 61]⟩
theorem two_eq (H : AHeap) : DCall Tryz.prog 24 [.str s_eq] H fun r H' => Gro H H' ∧ ∃ id, r = .fn (.func 38) [] [.ptr id 0] ∧ H'.get id = some (.cells 70 [fnv 46]) := by
  obtain ⟨H1, hH1, g1, n1, f1⟩ := psh H (.cells 9 [.str s_eq])
  have hcell : (AVal.str s_eq).cells = [.str s_eq] := rfl
  have l1 := load_cell g1 (o := 0) (v := .str s_eq) rfl
  have e0 : abin .eql (.str s_eq) (.str ⟨#[43]⟩) = some (.bool false) := by kernel_rfl
  have e1 : abin .eql (.str s_eq) (.str ⟨#[45]⟩) = some (.bool false) := by kernel_rfl
  have e2 : abin .eql (.str s_eq) (.str ⟨#[42]⟩) = some (.bool false) := by kernel_rfl
  have e3 : abin .eql (.str s_eq) (.str ⟨#[47]⟩) = some (.bool false) := by kernel_rfl
  have e4 : abin .eql (.str s_eq) (.str ⟨#[100, 105, 118]⟩) = some (.bool false) := by kernel_rfl
  have e5 : abin .eql (.str s_eq) (.str ⟨#[114, 101, 109]⟩) = some (.bool false) := by kernel_rfl
  have e6 : abin .eql (.str s_eq) (.str ⟨#[61, 61]⟩) = some (.bool true) := by kernel_rfl
  refine DCall.of_body (fn := Tryz.f24) (by kernel_rfl) c24 (by kernel_rfl) (by simp [f24]) ?_
  unfold f24
  simp only []
  refine DR.go rfl ?_
  simp -dsimp only [SZ, EZ, astep, aun, AVal.cells, seval, hcell, ← hH1]
  refine DR.go rfl ?_
  simp -dsimp only [SZ, EZ, astep, aun, AVal.cells, seval]
  refine DR.go rfl ?_
  simp -dsimp only [SZ, EZ, astep, aun, AVal.cells, seval]
  refine DR.go rfl ?_
  simp -dsimp only [SZ, EZ, astep, aun, AVal.cells, seval, l1]
  refine DR.go rfl ?_
  simp -dsimp only [SZ, EZ, astep, aun, AVal.cells, seval, e0]
  refine DR.ne rfl rfl ?_
  refine DR.go rfl ?_
  simp -dsimp only [SZ, EZ, astep, aun, AVal.cells, seval, e1]
  refine DR.ne rfl rfl ?_
  refine DR.go rfl ?_
  simp -dsimp only [SZ, EZ, astep, aun, AVal.cells, seval, e2]
  refine DR.ne rfl rfl ?_
  refine DR.go rfl ?_
  simp -dsimp only [SZ, EZ, astep, aun, AVal.cells, seval, e3]
  refine DR.ne rfl rfl ?_
  refine DR.go rfl ?_
  simp -dsimp only [SZ, EZ, astep, aun, AVal.cells, seval, e4]
  refine DR.ne rfl rfl ?_
  refine DR.go rfl ?_
  simp -dsimp only [SZ, EZ, astep, aun, AVal.cells, seval, e5]
  refine DR.ne rfl rfl ?_
  refine DR.go rfl ?_
  simp -dsimp only [SZ, EZ, astep, aun, AVal.cells, seval, e6]
  refine DR.ye rfl rfl ?_
  refine DR.go rfl ?_
  simp -dsimp only [SZ, EZ, astep, aun, AVal.cells, seval, List.append_nil, List.nil_append]
  refine (g37 H1).mono ?_
  rintro r H2 ⟨b2, id, rfl, hid⟩
  simp -dsimp only [SZ, EZ, astep, aun, AVal.cells, seval]
  refine DR.nm rfl ?_
  exact DR.ret ⟨_, by simp [aresult, ares, Env.get] <;> rfl, Gro.trans ⟨by omega, f1⟩ b2, id, rfl, hid⟩
theorem two_ne (H : AHeap) : DCall Tryz.prog 24 [.str s_ne] H fun r H' => Gro H H' ∧ ∃ id, r = .fn (.func 38) [] [.ptr id 0] ∧ H'.get id = some (.cells 70 [fnv 47]) := by
  obtain ⟨H1, hH1, g1, n1, f1⟩ := psh H (.cells 9 [.str s_ne])
  have hcell : (AVal.str s_ne).cells = [.str s_ne] := rfl
  have l1 := load_cell g1 (o := 0) (v := .str s_ne) rfl
  have e0 : abin .eql (.str s_ne) (.str ⟨#[43]⟩) = some (.bool false) := by kernel_rfl
  have e1 : abin .eql (.str s_ne) (.str ⟨#[45]⟩) = some (.bool false) := by kernel_rfl
  have e2 : abin .eql (.str s_ne) (.str ⟨#[42]⟩) = some (.bool false) := by kernel_rfl
  have e3 : abin .eql (.str s_ne) (.str ⟨#[47]⟩) = some (.bool false) := by kernel_rfl
  have e4 : abin .eql (.str s_ne) (.str ⟨#[100, 105, 118]⟩) = some (.bool false) := by kernel_rfl
  have e5 : abin .eql (.str s_ne) (.str ⟨#[114, 101, 109]⟩) = some (.bool false) := by kernel_rfl
  have e6 : abin .eql (.str s_ne) (.str ⟨#[61, 61]⟩) = some (.bool false) := by kernel_rfl
  have e7 : abin .eql (.str s_ne) (.str ⟨#[47, 61]⟩) = some (.bool true) := by kernel_rfl
  refine DCall.of_body (fn := Tryz.f24) (by kernel_rfl) c24 (by kernel_rfl) (by simp [f24]) ?_
  unfold f24
  simp only []
  refine DR.go rfl ?_
  simp -dsimp only [SZ, EZ, astep, aun, AVal.cells, seval, hcell, ← hH1]
  refine DR.go rfl ?_
  simp -dsimp only [SZ, EZ, astep, aun, AVal.cells, seval]
  refine DR.go rfl ?_
  simp -dsimp only [SZ, EZ, astep, aun, AVal.cells, seval]
  refine DR.go rfl ?_
  simp -dsimp only [SZ, EZ, astep, aun, AVal.cells, seval, l1]
  refine DR.go rfl ?_
  simp -dsimp only [SZ, EZ, astep, aun, AVal.cells, seval, e0]
  refine DR.ne rfl rfl ?_
  refine DR.go rfl ?_
  simp -dsimp only [SZ, EZ, astep, aun, AVal.cells, seval, e1]
  refine DR.ne rfl rfl ?_
  refine DR.go rfl ?_
  simp -dsimp only [SZ, EZ, astep, aun, AVal.cells, seval, e2]
  refine DR.ne rfl rfl ?_
  refine DR.go rfl ?_
  simp -dsimp only [SZ, EZ, astep, aun, AVal.cells, seval, e3]
  refine DR.ne rfl rfl ?_
  refine DR.go rfl ?_
  simp -dsimp only [SZ, EZ, astep, aun, AVal.cells, seval, e4]
  refine DR.ne rfl rfl ?_
  refine DR.go rfl ?_
  simp -dsimp only [SZ, EZ, astep, aun, AVal.cells, seval, e5]
  refine DR.ne rfl rfl ?_
  refine DR.go rfl ?_
  simp -dsimp only [SZ, EZ, astep, aun, AVal.cells, seval, e6]
  refine DR.ne rfl rfl ?_
  refine DR.go rfl ?_
  simp -dsimp only [SZ, EZ, astep, aun, AVal.cells, seval, e7]
  refine DR.ye rfl rfl ?_
  refine DR.go rfl ?_
  simp -dsimp only [SZ, EZ, astep, aun, AVal.cells, seval, List.append_nil, List.nil_append]
  refine (g37 H1).mono ?_
  rintro r H2 ⟨b2, id, rfl, hid⟩
  simp -dsimp only [SZ, EZ, astep, aun, AVal.cells, seval]
  refine DR.nm rfl ?_
  exact DR.ret ⟨_, by simp [aresult, ares, Env.get] <;> rfl, Gro.trans ⟨by omega, f1⟩ b2, id, rfl, hid⟩
theorem two_le (H : AHeap) : DCall Tryz.prog 24 [.str s_le] H fun r H' => Gro H H' ∧ ∃ id, r = .fn (.func 38) [] [.ptr id 0] ∧ H'.get id = some (.cells 70 [fnv 48]) := by
  obtain ⟨H1, hH1, g1, n1, f1⟩ := psh H (.cells 9 [.str s_le])
  have hcell : (AVal.str s_le).cells = [.str s_le] := rfl
  have l1 := load_cell g1 (o := 0) (v := .str s_le) rfl
  have e0 : abin .eql (.str s_le) (.str ⟨#[43]⟩) = some (.bool false) := by kernel_rfl
  have e1 : abin .eql (.str s_le) (.str ⟨#[45]⟩) = some (.bool false) := by kernel_rfl
  have e2 : abin .eql (.str s_le) (.str ⟨#[42]⟩) = some (.bool false) := by kernel_rfl
  have e3 : abin .eql (.str s_le) (.str ⟨#[47]⟩) = some (.bool false) := by kernel_rfl
  have e4 : abin .eql (.str s_le) (.str ⟨#[100, 105, 118]⟩) = some (.bool false) := by kernel_rfl
  have e5 : abin .eql (.str s_le) (.str ⟨#[114, 101, 109]⟩) = some (.bool false) := by kernel_rfl
  have e6 : abin .eql (.str s_le) (.str ⟨#[61, 61]⟩) = some (.bool false) := by kernel_rfl
  have e7 : abin .eql (.str s_le) (.str ⟨#[47, 61]⟩) = some (.bool false) := by kernel_rfl
  have e8 : abin .eql (.str s_le) (.str ⟨#[61, 60]⟩) = some (.bool true) := by kernel_rfl
  refine DCall.of_body (fn := Tryz.f24) (by kernel_rfl) c24 (by kernel_rfl) (by simp [f24]) ?_
  unfold f24
  simp only []
  refine DR.go rfl ?_
  simp -dsimp only [SZ, EZ, astep, aun, AVal.cells, seval, hcell, ← hH1]
  refine DR.go rfl ?_
  simp -dsimp only [SZ, EZ, astep, aun, AVal.cells, seval]
  refine DR.go rfl ?_
  simp -dsimp only [SZ, EZ, astep, aun, AVal.cells, seval]
  refine DR.go rfl ?_
  simp -dsimp only [SZ, EZ, astep, aun, AVal.cells, seval, l1]
  refine DR.go rfl ?_
  simp -dsimp only [SZ, EZ, astep, aun, AVal.cells, seval, e0]
  refine DR.ne rfl rfl ?_
  refine DR.go rfl ?_
  simp -dsimp only [SZ, EZ, astep, aun, AVal.cells, seval, e1]
  refine DR.ne rfl rfl ?_
  refine DR.go rfl ?_
  simp -dsimp only [SZ, EZ, astep, aun, AVal.cells, seval, e2]
  refine DR.ne rfl rfl ?_
  refine DR.go rfl ?_
  simp -dsimp only [SZ, EZ, astep, aun, AVal.cells, seval, e3]
  refine DR.ne rfl rfl ?_
  refine DR.go rfl ?_
  simp -dsimp only [SZ, EZ, astep, aun, AVal.cells, seval, e4]
  refine DR.ne rfl rfl ?_
  refine DR.go rfl ?_
  simp -dsimp only [SZ, EZ, astep, aun, AVal.cells, seval, e5]
  refine DR.ne rfl rfl ?_
  refine DR.go rfl ?_
  simp -dsimp only [SZ, EZ, astep, aun, AVal.cells, seval, e6]
  refine DR.ne rfl rfl ?_
  refine DR.go rfl ?_
  simp -dsimp only [SZ, EZ, astep, aun, AVal.cells, seval, e7]
  refine DR.ne rfl rfl ?_
  refine DR.go rfl ?_
  simp -dsimp only [SZ, EZ, astep, aun, AVal.cells, seval, e8]
  refine DR.ye rfl rfl ?_
  refine DR.go rfl ?_
  simp -dsimp only [SZ, EZ, astep, aun, AVal.cells, seval, List.append_nil, List.nil_append]
  refine (g37 H1).mono ?_
  rintro r H2 ⟨b2, id, rfl, hid⟩
  simp -dsimp only [SZ, EZ, astep, aun, AVal.cells, seval]
  refine DR.nm rfl ?_
  exact DR.ret ⟨_, by simp [aresult, ares, Env.get] <;> rfl, Gro.trans ⟨by omega, f1⟩ b2, id, rfl, hid⟩
theorem two_lt (H : AHeap) : DCall Tryz.prog 24 [.str s_lt] H fun r H' => Gro H H' ∧ ∃ id, r = .fn (.func 38) [] [.ptr id 0] ∧ H'.get id = some (.cells 70 [fnv 49]) := by
  obtain ⟨H1, hH1, g1, n1, f1⟩ := psh H (.cells 9 [.str s_lt])
  have hcell : (AVal.str s_lt).cells = [.str s_lt] := rfl
  have l1 := load_cell g1 (o := 0) (v := .str s_lt) rfl
  have e0 : abin .eql (.str s_lt) (.str ⟨#[43]⟩) = some (.bool false) := by kernel_rfl
  have e1 : abin .eql (.str s_lt) (.str ⟨#[45]⟩) = some (.bool false) := by kernel_rfl
  have e2 : abin .eql (.str s_lt) (.str ⟨#[42]⟩) = some (.bool false) := by kernel_rfl
  have e3 : abin .eql (.str s_lt) (.str ⟨#[47]⟩) = some (.bool false) := by kernel_rfl
  have e4 : abin .eql (.str s_lt) (.str ⟨#[100, 105, 118]⟩) = some (.bool false) := by kernel_rfl
  have e5 : abin .eql (.str s_lt) (.str ⟨#[114, 101, 109]⟩) = some (.bool false) := by kernel_rfl
  have e6 : abin .eql (.str s_lt) (.str ⟨#[61, 61]⟩) = some (.bool false) := by kernel_rfl
  have e7 : abin .eql (.str s_lt) (.str ⟨#[47, 61]⟩) = some (.bool false) := by kernel_rfl
  have e8 : abin .eql (.str s_lt) (.str ⟨#[61, 60]⟩) = some (.bool false) := by kernel_rfl
  have e9 : abin .eql (.str s_lt) (.str ⟨#[60]⟩) = some (.bool true) := by kernel_rfl
  refine DCall.of_body (fn := Tryz.f24) (by kernel_rfl) c24 (by kernel_rfl) (by simp [f24]) ?_
  unfold f24
  simp only []
  refine DR.go rfl ?_
  simp -dsimp only [SZ, EZ, astep, aun, AVal.cells, seval, hcell, ← hH1]
  refine DR.go rfl ?_
  simp -dsimp only [SZ, EZ, astep, aun, AVal.cells, seval]
  refine DR.go rfl ?_
  simp -dsimp only [SZ, EZ, astep, aun, AVal.cells, seval]
  refine DR.go rfl ?_
  simp -dsimp only [SZ, EZ, astep, aun, AVal.cells, seval, l1]
  refine DR.go rfl ?_
  simp -dsimp only [SZ, EZ, astep, aun, AVal.cells, seval, e0]
  refine DR.ne rfl rfl ?_
  refine DR.go rfl ?_
  simp -dsimp only [SZ, EZ, astep, aun, AVal.cells, seval, e1]
  refine DR.ne rfl rfl ?_
  refine DR.go rfl ?_
  simp -dsimp only [SZ, EZ, astep, aun, AVal.cells, seval, e2]
  refine DR.ne rfl rfl ?_
  refine DR.go rfl ?_
  simp -dsimp only [SZ, EZ, astep, aun, AVal.cells, seval, e3]
  refine DR.ne rfl rfl ?_
  refine DR.go rfl ?_
  simp -dsimp only [SZ, EZ, astep, aun, AVal.cells, seval, e4]
  refine DR.ne rfl rfl ?_
  refine DR.go rfl ?_
  simp -dsimp only [SZ, EZ, astep, aun, AVal.cells, seval, e5]
  refine DR.ne rfl rfl ?_
  refine DR.go rfl ?_
  simp -dsimp only [SZ, EZ, astep, aun, AVal.cells, seval, e6]
  refine DR.ne rfl rfl ?_
  refine DR.go rfl ?_
  simp -dsimp only [SZ, EZ, astep, aun, AVal.cells, seval, e7]
  refine DR.ne rfl rfl ?_
  refine DR.go rfl ?_
  simp -dsimp only [SZ, EZ, astep, aun, AVal.cells, seval, e8]
  refine DR.ne rfl rfl ?_
  refine DR.go rfl ?_
  simp -dsimp only [SZ, EZ, astep, aun, AVal.cells, seval, e9]
  refine DR.ye rfl rfl ?_
  refine DR.go rfl ?_
  simp -dsimp only [SZ, EZ, astep, aun, AVal.cells, seval, List.append_nil, List.nil_append]
  refine (g37 H1).mono ?_
  rintro r H2 ⟨b2, id, rfl, hid⟩
  simp -dsimp only [SZ, EZ, astep, aun, AVal.cells, seval]
  refine DR.nm rfl ?_
  exact DR.ret ⟨_, by simp [aresult, ares, Env.get] <;> rfl, Gro.trans ⟨by omega, f1⟩ b2, id, rfl, hid⟩
theorem two_ge (H : AHeap) : DCall Tryz.prog 24 [.str s_ge] H fun r H' => Gro H H' ∧ ∃ id, r = .fn (.func 38) [] [.ptr id 0] ∧ H'.get id = some (.cells 70 [fnv 50]) := by
  obtain ⟨H1, hH1, g1, n1, f1⟩ := psh H (.cells 9 [.str s_ge])
  have hcell : (AVal.str s_ge).cells = [.str s_ge] := rfl
  have l1 := load_cell g1 (o := 0) (v := .str s_ge) rfl
  have e0 : abin .eql (.str s_ge) (.str ⟨#[43]⟩) = some (.bool false) := by kernel_rfl
  have e1 : abin .eql (.str s_ge) (.str ⟨#[45]⟩) = some (.bool false) := by kernel_rfl
  have e2 : abin .eql (.str s_ge) (.str ⟨#[42]⟩) = some (.bool false) := by kernel_rfl
  have e3 : abin .eql (.str s_ge) (.str ⟨#[47]⟩) = some (.bool false) := by kernel_rfl
  have e4 : abin .eql (.str s_ge) (.str ⟨#[100, 105, 118]⟩) = some (.bool false) := by kernel_rfl
  have e5 : abin .eql (.str s_ge) (.str ⟨#[114, 101, 109]⟩) = some (.bool false) := by kernel_rfl
  have e6 : abin .eql (.str s_ge) (.str ⟨#[61, 61]⟩) = some (.bool false) := by kernel_rfl
  have e7 : abin .eql (.str s_ge) (.str ⟨#[47, 61]⟩) = some (.bool false) := by kernel_rfl
  have e8 : abin .eql (.str s_ge) (.str ⟨#[61, 60]⟩) = some (.bool false) := by kernel_rfl
  have e9 : abin .eql (.str s_ge) (.str ⟨#[60]⟩) = some (.bool false) := by kernel_rfl
  have e10 : abin .eql (.str s_ge) (.str ⟨#[62, 61]⟩) = some (.bool true) := by kernel_rfl
  refine DCall.of_body (fn := Tryz.f24) (by kernel_rfl) c24 (by kernel_rfl) (by simp [f24]) ?_
  unfold f24
  simp only []
  refine DR.go rfl ?_
  simp -dsimp only [SZ, EZ, astep, aun, AVal.cells, seval, hcell, ← hH1]
  refine DR.go rfl ?_
  simp -dsimp only [SZ, EZ, astep, aun, AVal.cells, seval]
  refine DR.go rfl ?_
  simp -dsimp only [SZ, EZ, astep, aun, AVal.cells, seval]
  refine DR.go rfl ?_
  simp -dsimp only [SZ, EZ, astep, aun, AVal.cells, seval, l1]
  refine DR.go rfl ?_
  simp -dsimp only [SZ, EZ, astep, aun, AVal.cells, seval, e0]
  refine DR.ne rfl rfl ?_
  refine DR.go rfl ?_
  simp -dsimp only [SZ, EZ, astep, aun, AVal.cells, seval, e1]
  refine DR.ne rfl rfl ?_
  refine DR.go rfl ?_
  simp -dsimp only [SZ, EZ, astep, aun, AVal.cells, seval, e2]
  refine DR.ne rfl rfl ?_
  refine DR.go rfl ?_
  simp -dsimp only [SZ, EZ, astep, aun, AVal.cells, seval, e3]
  refine DR.ne rfl rfl ?_
  refine DR.go rfl ?_
  simp -dsimp only [SZ, EZ, astep, aun, AVal.cells, seval, e4]
  refine DR.ne rfl rfl ?_
  refine DR.go rfl ?_
  simp -dsimp only [SZ, EZ, astep, aun, AVal.cells, seval, e5]
  refine DR.ne rfl rfl ?_
  refine DR.go rfl ?_
  simp -dsimp only [SZ, EZ, astep, aun, AVal.cells, seval, e6]
  refine DR.ne rfl rfl ?_
  refine DR.go rfl ?_
  simp -dsimp only [SZ, EZ, astep, aun, AVal.cells, seval, e7]
  refine DR.ne rfl rfl ?_
  refine DR.go rfl ?_
  simp -dsimp only [SZ, EZ, astep, aun, AVal.cells, seval, e8]
  refine DR.ne rfl rfl ?_
  refine DR.go rfl ?_
  simp -dsimp only [SZ, EZ, astep, aun, AVal.cells, seval, e9]
  refine DR.ne rfl rfl ?_
  refine DR.go rfl ?_
  simp -dsimp only [SZ, EZ, astep, aun, AVal.cells, seval, e10]
  refine DR.ye rfl rfl ?_
  refine DR.go rfl ?_
  simp -dsimp only [SZ, EZ, astep, aun, AVal.cells, seval, List.append_nil, List.nil_append]
  refine (g37 H1).mono ?_
  rintro r H2 ⟨b2, id, rfl, hid⟩
  simp -dsimp only [SZ, EZ, astep, aun, AVal.cells, seval]
  refine DR.nm rfl ?_
  exact DR.ret ⟨_, by simp [aresult, ares, Env.get] <;> rfl, Gro.trans ⟨by omega, f1⟩ b2, id, rfl, hid⟩
theorem two_gt (H : AHeap) : DCall Tryz.prog 24 [.str s_gt] H fun r H' => Gro H H' ∧ ∃ id, r = .fn (.func 38) [] [.ptr id 0] ∧ H'.get id = some (.cells 70 [fnv 51]) := by
  obtain ⟨H1, hH1, g1, n1, f1⟩ := psh H (.cells 9 [.str s_gt])
  have hcell : (AVal.str s_gt).cells = [.str s_gt] := rfl
  have l1 := load_cell g1 (o := 0) (v := .str s_gt) rfl
  have e0 : abin .eql (.str s_gt) (.str ⟨#[43]⟩) = some (.bool false) := by kernel_rfl
  have e1 : abin .eql (.str s_gt) (.str ⟨#[45]⟩) = some (.bool false) := by kernel_rfl
  have e2 : abin .eql (.str s_gt) (.str ⟨#[42]⟩) = some (.bool false) := by kernel_rfl
  have e3 : abin .eql (.str s_gt) (.str ⟨#[47]⟩) = some (.bool false) := by kernel_rfl
  have e4 : abin .eql (.str s_gt) (.str ⟨#[100, 105, 118]⟩) = some (.bool false) := by kernel_rfl
  have e5 : abin .eql (.str s_gt) (.str ⟨#[114, 101, 109]⟩) = some (.bool false) := by kernel_rfl
  have e6 : abin .eql (.str s_gt) (.str ⟨#[61, 61]⟩) = some (.bool false) := by kernel_rfl
  have e7 : abin .eql (.str s_gt) (.str ⟨#[47, 61]⟩) = some (.bool false) := by kernel_rfl
  have e8 : abin .eql (.str s_gt) (.str ⟨#[61, 60]⟩) = some (.bool false) := by kernel_rfl
  have e9 : abin .eql (.str s_gt) (.str ⟨#[60]⟩) = some (.bool false) := by kernel_rfl
  have e10 : abin .eql (.str s_gt) (.str ⟨#[62, 61]⟩) = some (.bool false) := by kernel_rfl
  have e11 : abin .eql (.str s_gt) (.str ⟨#[62]⟩) = some (.bool true) := by kernel_rfl
  refine DCall.of_body (fn := Tryz.f24) (by kernel_rfl) c24 (by kernel_rfl) (by simp [f24]) ?_
  unfold f24
  simp only []
  refine DR.go rfl ?_
  simp -dsimp only [SZ, EZ, astep, aun, AVal.cells, seval, hcell, ← hH1]
  refine DR.go rfl ?_
  simp -dsimp only [SZ, EZ, astep, aun, AVal.cells, seval]
  refine DR.go rfl ?_
  simp -dsimp only [SZ, EZ, astep, aun, AVal.cells, seval]
  refine DR.go rfl ?_
  simp -dsimp only [SZ, EZ, astep, aun, AVal.cells, seval, l1]
  refine DR.go rfl ?_
  simp -dsimp only [SZ, EZ, astep, aun, AVal.cells, seval, e0]
  refine DR.ne rfl rfl ?_
  refine DR.go rfl ?_
  simp -dsimp only [SZ, EZ, astep, aun, AVal.cells, seval, e1]
  refine DR.ne rfl rfl ?_
  refine DR.go rfl ?_
  simp -dsimp only [SZ, EZ, astep, aun, AVal.cells, seval, e2]
  refine DR.ne rfl rfl ?_
  refine DR.go rfl ?_
  simp -dsimp only [SZ, EZ, astep, aun, AVal.cells, seval, e3]
  refine DR.ne rfl rfl ?_
  refine DR.go rfl ?_
  simp -dsimp only [SZ, EZ, astep, aun, AVal.cells, seval, e4]
  refine DR.ne rfl rfl ?_
  refine DR.go rfl ?_
  simp -dsimp only [SZ, EZ, astep, aun, AVal.cells, seval, e5]
  refine DR.ne rfl rfl ?_
  refine DR.go rfl ?_
  simp -dsimp only [SZ, EZ, astep, aun, AVal.cells, seval, e6]
  refine DR.ne rfl rfl ?_
  refine DR.go rfl ?_
  simp -dsimp only [SZ, EZ, astep, aun, AVal.cells, seval, e7]
  refine DR.ne rfl rfl ?_
  refine DR.go rfl ?_
  simp -dsimp only [SZ, EZ, astep, aun, AVal.cells, seval, e8]
  refine DR.ne rfl rfl ?_
  refine DR.go rfl ?_
  simp -dsimp only [SZ, EZ, astep, aun, AVal.cells, seval, e9]
  refine DR.ne rfl rfl ?_
  refine DR.go rfl ?_
  simp -dsimp only [SZ, EZ, astep, aun, AVal.cells, seval, e10]
  refine DR.ne rfl rfl ?_
  refine DR.go rfl ?_
  simp -dsimp only [SZ, EZ, astep, aun, AVal.cells, seval, e11]
  refine DR.ye rfl rfl ?_
  refine DR.go rfl ?_
  simp -dsimp only [SZ, EZ, astep, aun, AVal.cells, seval, List.append_nil, List.nil_append]
  refine (g37 H1).mono ?_
  rintro r H2 ⟨b2, id, rfl, hid⟩
  simp -dsimp only [SZ, EZ, astep, aun, AVal.cells, seval]
  refine DR.nm rfl ?_
  exact DR.ret ⟨_, by simp [aresult, ares, Env.get] <;> rfl, Gro.trans ⟨by omega, f1⟩ b2, id, rfl, hid⟩
theorem two_same (H : AHeap) : DCall Tryz.prog 24 [.str s_same] H fun r H' => Gro H H' ∧ ∃ id, r = .fn (.func 41) [] [.ptr id 0] ∧ H'.get id = some (.cells 4 [.bool true]) := by
  obtain ⟨H1, hH1, g1, n1, f1⟩ := psh H (.cells 9 [.str s_same])
  have hcell : (AVal.str s_same).cells = [.str s_same] := rfl
  have l1 := load_cell g1 (o := 0) (v := .str s_same) rfl
  have e0 : abin .eql (.str s_same) (.str ⟨#[43]⟩) = some (.bool false) := by kernel_rfl
  have e1 : abin .eql (.str s_same) (.str ⟨#[45]⟩) = some (.bool false) := by kernel_rfl
  have e2 : abin .eql (.str s_same) (.str ⟨#[42]⟩) = some (.bool false) := by kernel_rfl
  have e3 : abin .eql (.str s_same) (.str ⟨#[47]⟩) = some (.bool false) := by kernel_rfl
  have e4 : abin .eql (.str s_same) (.str ⟨#[100, 105, 118]⟩) = some (.bool false) := by kernel_rfl
  have e5 : abin .eql (.str s_same) (.str ⟨#[114, 101, 109]⟩) = some (.bool false) := by kernel_rfl
  have e6 : abin .eql (.str s_same) (.str ⟨#[61, 61]⟩) = some (.bool false) := by kernel_rfl
  have e7 : abin .eql (.str s_same) (.str ⟨#[47, 61]⟩) = some (.bool false) := by kernel_rfl
  have e8 : abin .eql (.str s_same) (.str ⟨#[61, 60]⟩) = some (.bool false) := by kernel_rfl
  have e9 : abin .eql (.str s_same) (.str ⟨#[60]⟩) = some (.bool false) := by kernel_rfl
  have e10 : abin .eql (.str s_same) (.str ⟨#[62, 61]⟩) = some (.bool false) := by kernel_rfl
  have e11 : abin .eql (.str s_same) (.str ⟨#[62]⟩) = some (.bool false) := by kernel_rfl
  have e12 : abin .eql (.str s_same) (.str ⟨#[61, 58, 61]⟩) = some (.bool true) := by kernel_rfl
  refine DCall.of_body (fn := Tryz.f24) (by kernel_rfl) c24 (by kernel_rfl) (by simp [f24]) ?_
  unfold f24
  simp only []
  refine DR.go rfl ?_
  simp -dsimp only [SZ, EZ, astep, aun, AVal.cells, seval, hcell, ← hH1]
  refine DR.go rfl ?_
  simp -dsimp only [SZ, EZ, astep, aun, AVal.cells, seval]
  refine DR.go rfl ?_
  simp -dsimp only [SZ, EZ, astep, aun, AVal.cells, seval]
  refine DR.go rfl ?_
  simp -dsimp only [SZ, EZ, astep, aun, AVal.cells, seval, l1]
  refine DR.go rfl ?_
  simp -dsimp only [SZ, EZ, astep, aun, AVal.cells, seval, e0]
  refine DR.ne rfl rfl ?_
  refine DR.go rfl ?_
  simp -dsimp only [SZ, EZ, astep, aun, AVal.cells, seval, e1]
  refine DR.ne rfl rfl ?_
  refine DR.go rfl ?_
  simp -dsimp only [SZ, EZ, astep, aun, AVal.cells, seval, e2]
  refine DR.ne rfl rfl ?_
  refine DR.go rfl ?_
  simp -dsimp only [SZ, EZ, astep, aun, AVal.cells, seval, e3]
  refine DR.ne rfl rfl ?_
  refine DR.go rfl ?_
  simp -dsimp only [SZ, EZ, astep, aun, AVal.cells, seval, e4]
  refine DR.ne rfl rfl ?_
  refine DR.go rfl ?_
  simp -dsimp only [SZ, EZ, astep, aun, AVal.cells, seval, e5]
  refine DR.ne rfl rfl ?_
  refine DR.go rfl ?_
  simp -dsimp only [SZ, EZ, astep, aun, AVal.cells, seval, e6]
  refine DR.ne rfl rfl ?_
  refine DR.go rfl ?_
  simp -dsimp only [SZ, EZ, astep, aun, AVal.cells, seval, e7]
  refine DR.ne rfl rfl ?_
  refine DR.go rfl ?_
  simp -dsimp only [SZ, EZ, astep, aun, AVal.cells, seval, e8]
  refine DR.ne rfl rfl ?_
  refine DR.go rfl ?_
  simp -dsimp only [SZ, EZ, astep, aun, AVal.cells, seval, e9]
  refine DR.ne rfl rfl ?_
  refine DR.go rfl ?_
  simp -dsimp only [SZ, EZ, astep, aun, AVal.cells, seval, e10]
  refine DR.ne rfl rfl ?_
  refine DR.go rfl ?_
  simp -dsimp only [SZ, EZ, astep, aun, AVal.cells, seval, e11]
  refine DR.ne rfl rfl ?_
  refine DR.go rfl ?_
  simp -dsimp only [SZ, EZ, astep, aun, AVal.cells, seval, e12]
  refine DR.ye rfl rfl ?_
  refine DR.go rfl ?_
  simp -dsimp only [SZ, EZ, astep, aun, AVal.cells, seval, List.append_nil, List.nil_append]
  refine (g40 H1).mono ?_
  rintro r H2 ⟨b2, id, rfl, hid⟩
  simp -dsimp only [SZ, EZ, astep, aun, AVal.cells, seval]
  refine DR.nm rfl ?_
  exact DR.ret ⟨_, by simp [aresult, ares, Env.get] <;> rfl, Gro.trans ⟨by omega, f1⟩ b2, id, rfl, hid⟩
theorem two_diff (H : AHeap) : DCall Tryz.prog 24 [.str s_diff] H fun r H' => Gro H H' ∧ ∃ id, r = .fn (.func 41) [] [.ptr id 0] ∧ H'.get id = some (.cells 4 [.bool false]) := by
  obtain ⟨H1, hH1, g1, n1, f1⟩ := psh H (.cells 9 [.str s_diff])
  have hcell : (AVal.str s_diff).cells = [.str s_diff] := rfl
  have l1 := load_cell g1 (o := 0) (v := .str s_diff) rfl
  have e0 : abin .eql (.str s_diff) (.str ⟨#[43]⟩) = some (.bool false) := by kernel_rfl
  have e1 : abin .eql (.str s_diff) (.str ⟨#[45]⟩) = some (.bool false) := by kernel_rfl
  have e2 : abin .eql (.str s_diff) (.str ⟨#[42]⟩) = some (.bool false) := by kernel_rfl
  have e3 : abin .eql (.str s_diff) (.str ⟨#[47]⟩) = some (.bool false) := by kernel_rfl
  have e4 : abin .eql (.str s_diff) (.str ⟨#[100, 105, 118]⟩) = some (.bool false) := by kernel_rfl
  have e5 : abin .eql (.str s_diff) (.str ⟨#[114, 101, 109]⟩) = some (.bool false) := by kernel_rfl
  have e6 : abin .eql (.str s_diff) (.str ⟨#[61, 61]⟩) = some (.bool false) := by kernel_rfl
  have e7 : abin .eql (.str s_diff) (.str ⟨#[47, 61]⟩) = some (.bool false) := by kernel_rfl
  have e8 : abin .eql (.str s_diff) (.str ⟨#[61, 60]⟩) = some (.bool false) := by kernel_rfl
  have e9 : abin .eql (.str s_diff) (.str ⟨#[60]⟩) = some (.bool false) := by kernel_rfl
  have e10 : abin .eql (.str s_diff) (.str ⟨#[62, 61]⟩) = some (.bool false) := by kernel_rfl
  have e11 : abin .eql (.str s_diff) (.str ⟨#[62]⟩) = some (.bool false) := by kernel_rfl
  have e12 : abin .eql (.str s_diff) (.str ⟨#[61, 58, 61]⟩) = some (.bool false) := by kernel_rfl
  have e13 : abin .eql (.str s_diff) (.str ⟨#[61, 47, 61]⟩) = some (.bool true) := by kernel_rfl
  refine DCall.of_body (fn := Tryz.f24) (by kernel_rfl) c24 (by kernel_rfl) (by simp [f24]) ?_
  unfold f24
  simp only []
  refine DR.go rfl ?_
  simp -dsimp only [SZ, EZ, astep, aun, AVal.cells, seval, hcell, ← hH1]
  refine DR.go rfl ?_
  simp -dsimp only [SZ, EZ, astep, aun, AVal.cells, seval]
  refine DR.go rfl ?_
  simp -dsimp only [SZ, EZ, astep, aun, AVal.cells, seval]
  refine DR.go rfl ?_
  simp -dsimp only [SZ, EZ, astep, aun, AVal.cells, seval, l1]
  refine DR.go rfl ?_
  simp -dsimp only [SZ, EZ, astep, aun, AVal.cells, seval, e0]
  refine DR.ne rfl rfl ?_
  refine DR.go rfl ?_
  simp -dsimp only [SZ, EZ, astep, aun, AVal.cells, seval, e1]
  refine DR.ne rfl rfl ?_
  refine DR.go rfl ?_
  simp -dsimp only [SZ, EZ, astep, aun, AVal.cells, seval, e2]
  refine DR.ne rfl rfl ?_
  refine DR.go rfl ?_
  simp -dsimp only [SZ, EZ, astep, aun, AVal.cells, seval, e3]
  refine DR.ne rfl rfl ?_
  refine DR.go rfl ?_
  simp -dsimp only [SZ, EZ, astep, aun, AVal.cells, seval, e4]
  refine DR.ne rfl rfl ?_
  refine DR.go rfl ?_
  simp -dsimp only [SZ, EZ, astep, aun, AVal.cells, seval, e5]
  refine DR.ne rfl rfl ?_
  refine DR.go rfl ?_
  simp -dsimp only [SZ, EZ, astep, aun, AVal.cells, seval, e6]
  refine DR.ne rfl rfl ?_
  refine DR.go rfl ?_
  simp -dsimp only [SZ, EZ, astep, aun, AVal.cells, seval, e7]
  refine DR.ne rfl rfl ?_
  refine DR.go rfl ?_
  simp -dsimp only [SZ, EZ, astep, aun, AVal.cells, seval, e8]
  refine DR.ne rfl rfl ?_
  refine DR.go rfl ?_
  simp -dsimp only [SZ, EZ, astep, aun, AVal.cells, seval, e9]
  refine DR.ne rfl rfl ?_
  refine DR.go rfl ?_
  simp -dsimp only [SZ, EZ, astep, aun, AVal.cells, seval, e10]
  refine DR.ne rfl rfl ?_
  refine DR.go rfl ?_
  simp -dsimp only [SZ, EZ, astep, aun, AVal.cells, seval, e11]
  refine DR.ne rfl rfl ?_
  refine DR.go rfl ?_
  simp -dsimp only [SZ, EZ, astep, aun, AVal.cells, seval, e12]
  refine DR.ne rfl rfl ?_
  refine DR.go rfl ?_
  simp -dsimp only [SZ, EZ, astep, aun, AVal.cells, seval, e13]
  refine DR.ye rfl rfl ?_
  refine DR.go rfl ?_
  simp -dsimp only [SZ, EZ, astep, aun, AVal.cells, seval, List.append_nil, List.nil_append]
  refine (g40 H1).mono ?_
  rintro r H2 ⟨b2, id, rfl, hid⟩
  simp -dsimp only [SZ, EZ, astep, aun, AVal.cells, seval]
  refine DR.nm rfl ?_
  exact DR.ret ⟨_, by simp [aresult, ares, Env.get] <;> rfl, Gro.trans ⟨by omega, f1⟩ b2, id, rfl, hid⟩
end Go.Am.Rl

/- Two right terms compared by a sign; the lesser and the greater. -/
namespace Go.Am.Rl
open Go.Proofs

theorem SL2.set {H H' : AHeap} {v : AVal} {a b : TM} (h : SL2 H v a b) (g : ∀ j, j < H.next → H'.get j = H.get j) : SL2 H' v a b := by
  obtain ⟨id, cap, rfl, h⟩ := h
  exact ⟨id, cap, rfl, (g _ (AHeap.get_lt h)).trans h⟩
section
variable {a b : TM} {v : AVal} {f : FuncId} {blk : ABlk} {p : Bool}
theorem g23s {H : AHeap} {b7 b6 cid id : Nat} (h7 : H.get b7 = some (.cells 54 [.fn (.func f) [] [.ptr id 0]])) (h6 : H.get b6 = some (.cells 51 [.ptr cid 0])) (hc : H.get cid = some (.cells 53 [v, .nilf])) (hi : H.get id = some blk) (hv : SL2 H v a b)
    (hf : ∀ H cid id, SL2 H v a b → H.get cid = some (.cells 53 [v, .nilf]) → H.get id = some blk → DCall Tryz.prog f [.ptr cid 0, .ptr id 0] H (TellsB H p)) : DCallX Tryz.prog 27 [.ptr b7 0, .ptr b6 0] H (Tells H (fun y => y = tf p) (fun _ => False)) := by
  obtain ⟨H1, hH1, g1, n1, f1⟩ := psh H (.cells 25 z25)
  have hz : z25 = [.int .i64 0, .int .i64 0, .flt .f64 0, .str ⟨#[]⟩, .nils] := rfl
  have b1 : Gro H H1 := ⟨by omega, f1⟩
  have l7 := load_cell (b1.get h7) (o := 0) (v := .fn (.func f) [] [.ptr id 0]) rfl
  have l6 := load_cell (b1.get h6) (o := 0) (v := .ptr cid 0) rfl
  refine DCallX.of_body (fn := Tryz.f27) (by kernel_rfl) c27 (by kernel_rfl) (by simp [f27]) ?_
  unfold f27
  simp only []
  refine DRX.go rfl ?_
  simp -dsimp only [XZ, SZ, EZ, astep, aun, AVal.cells, seval, ← hz, ← hH1]
  refine DRX.go rfl ?_
  simp -dsimp only [XZ, SZ, EZ, astep, aun, seval, l7, l6, List.append_nil, List.nil_append, List.cons_append]
  refine DCall.monoX (hf H1 cid id (hv.gro b1) (b1.get hc) (b1.get hi)) ?_
  rintro r H3 ⟨b3, rfl⟩
  have t3 := b3.get g1
  have s1 := store_all (n := 5) t3 (new := TM.c5 (tf p)) rfl (TM.ones5 _) rfl
  obtain ⟨H4, hH4, g4, n4, f4⟩ := upd t3 (.cells 25 (TM.c5 (tf p)))
  have l6 := load_all (n := 5) g4 rfl
  simp -dsimp only [XZ, SZ, EZ, astep, aun, AVal.cells, seval, s1, ← hH4]
  refine DRX.nm rfl ?_
  exact DRX.ret ⟨(tf p).agg, by simp [aresult, ares, Env.get, l6], ⟨by have := b1.1; have := b3.1; omega, fun i hi => by rw [f4 i (by omega), (b1.trans b3).2 i hi]⟩, .inl ⟨tf p, tf_ok p, rfl, rfl⟩⟩
theorem g12s {sg : ByteArray} (h20 : ∀ H, DCall Tryz.prog 24 [.str sg] H fun r H' => Gro H H' ∧ ∃ id, r = .fn (.func f) [] [.ptr id 0] ∧ H'.get id = some blk)
    (hf : ∀ H cid id, SL2 H v a b → H.get cid = some (.cells 53 [v, .nilf]) → H.get id = some blk → DCall Tryz.prog f [.ptr cid 0, .ptr id 0] H (TellsB H p)) (H : AHeap) (hv : SL2 H v a b) :
    DCall Tryz.prog 11 [.str sg, v] H fun r H' => Gro H H' ∧ r = .tup [(tf p).agg, .int .i64 0] := by
  have key : DCallX Tryz.prog 11 [.str sg, v] H fun o H' => ∃ r, o = .ret r ∧ (Gro H H' ∧ r = .tup [(tf p).agg, .int .i64 0]) := by
    obtain ⟨v1, vc⟩ := hv.one
    obtain ⟨H1, hH1, g1, n1, f1⟩ := psh H (.cells 25 z25)
    have hz : z25 = [.int .i64 0, .int .i64 0, .flt .f64 0, .str ⟨#[]⟩, .nils] := rfl
    obtain ⟨H2, hH2, g2, n2, f2⟩ := psh H1 (.cells 53 [v, .nilf])
    obtain ⟨H3, hH3, g3, n3, f3⟩ := psh H2 (.cells 51 [.nilp])
    have s3 : astore H3 1 (.ptr H2.next 0) (.ptr H1.next 0) = some (H3.set H2.next (.cells 51 [.ptr H1.next 0])) := astore_one g3 (o := 0) (by simp) rfl
    obtain ⟨H4, hH4, g4, n4, f4⟩ := upd g3 (.cells 51 [.ptr H1.next 0])
    have k2 : H4.get H1.next = some (.cells 53 [v, .nilf]) := by rw [f4 _ (by omega), f3 _ (by omega)]; exact g2
    have k1 : H4.get H.next = some (.cells 25 z25) := by rw [f4 _ (by omega), f3 _ (by omega), f2 _ (by omega)]; exact g1
    have b4 : Gro H H4 := ⟨by omega, fun j hj => by rw [f4 j (by omega), f3 j (by omega), f2 j (by omega), f1 j hj]⟩
    have hcell : ∀ c : List AVal, (AVal.agg c).cells = c := fun _ => rfl
    have hfl : afill [.nils, .nilf] [(0, 1, v)] = some [v, .nilf] := by simp only [afill, vc]; rfl
    refine DCallX.of_body (fn := Tryz.f11) (by kernel_rfl) c11 (by kernel_rfl) (by simp [f11]) ?_
    unfold f11
    simp only []
    refine DRX.go rfl ?_
    simp -dsimp only [XZ, SZ, EZ, astep, aun, AVal.cells, seval, ← hz, ← hH1]
    refine DRX.go rfl ?_
    simp -dsimp only [XZ, SZ, EZ, astep, aun, AVal.cells, seval, Env.parts, hfl, hcell, ← hH2, ← hH3, s3, ← hH4]
    refine DRX.go rfl ?_
    simp -dsimp only [XZ, SZ, EZ, astep, aun, AVal.cells, seval]
    refine DCall.monoX (h20 H4) ?_
    rintro r H5 ⟨b5, id, rfl, hid⟩
    obtain ⟨H6, hH6, g6, n6, f6⟩ := psh H5 (.cells 54 [.nilf])
    have s6 : astore H6 1 (.ptr H5.next 0) (.fn (.func f) [] [.ptr id 0]) = some (H6.set H5.next (.cells 54 [.fn (.func f) [] [.ptr id 0]])) := astore_one g6 (o := 0) (by simp) rfl
    obtain ⟨H7, hH7, g7, n7, f7⟩ := upd g6 (.cells 54 [.fn (.func f) [] [.ptr id 0]])
    have b7 : Gro H5 H7 := ⟨by omega, fun j hj => by rw [f7 j (by omega), f6 j hj]⟩
    have l7 := load_cell g7 (o := 0) (v := .fn (.func f) [] [.ptr id 0]) rfl
    have hl6 := hv.len H7
    have c0 : abin .eql (.int .i64 2) (.int .i64 1) = some (.bool false) := rfl
    have c1 : abin .lss (.int .i64 2) (.int .i64 1) = some (.bool false) := rfl
    have c2 : abin .gtr (.int .i64 2) (.int .i64 2) = some (.bool false) := rfl
    simp -dsimp only [XZ, SZ, EZ, astep, aun, AVal.cells, seval, ← hH6, s6, ← hH7]
    refine DRX.go rfl ?_
    simp -dsimp only [XZ, SZ, EZ, astep, aun, AVal.cells, seval, hl6, c0]
    refine DRX.ne rfl rfl ?_
    refine DRX.go rfl ?_
    simp -dsimp only [XZ, SZ, EZ, astep, aun, AVal.cells, seval, l7, anil, hl6, c1, c2]
    refine DRX.ne rfl rfl ?_
    refine DRX.go rfl ?_
    simp -dsimp only [XZ, SZ, EZ, astep, aun, AVal.cells, seval]
    refine (g22 (fun H8 b8 => g23s (b8.get g7) (b8.get (b7.get (b5.get g4))) (b8.get (b7.get (b5.get k2))) (b8.get (b7.get hid)) (hv.gro (((b4.trans b5).trans b7).trans b8)) hf)).mono ?_
    rintro o H9 ⟨b9, ⟨y, oy, rfl, rfl⟩ | ⟨e, he, _⟩⟩
    · have r9 := b9.get (b7.get (b5.get k1))
      have s9 := store_all (n := 5) r9 (new := TM.c5 (norm (tf p))) rfl (TM.ones5 _) rfl
      obtain ⟨HA, hHA, gA, nA, fA⟩ := upd r9 (.cells 25 (TM.c5 (norm (tf p))))
      have lA := load_all (n := 5) gA rfl
      have iy0 : ([(norm (tf p)).agg, .int .i64 0] : List AVal)[0]? = some (norm (tf p)).agg := rfl
      have iy1 : ([(norm (tf p)).agg, .int .i64 0] : List AVal)[1]? = some (.int .i64 0) := rfl
      have bb := ((b4.trans b5).trans b7).trans b9
      simp -dsimp only [XZ, SZ, EZ, astep, aun, AVal.cells, seval, iy0, iy1, s9, ← hHA]
      refine DRX.nm rfl ?_
      exact DRX.ret ⟨.tup [(norm (tf p)).agg, .int .i64 0], by simp [aresult, ares, Env.get, lA], _, rfl, ⟨by have := bb.1; omega, fun j hj => by rw [fA j (by omega), bb.2 j hj]⟩, rfl⟩
    · exact he.elim
  exact DCallX.plain key
end
/-- The signs of the law, in its order. -/
def sgv : Nat → ByteArray
  | 0 => s_lt | 1 => s_eq | 2 => s_gt | 3 => s_le | 4 => s_ge | 5 => s_ne | 6 => s_same | _ => s_diff
/-- What they tell. -/
def pv (a b : TM) : Nat → Bool
  | 0 => decide (ord a b < 0) | 1 => decide (ord a b = 0) | 2 => decide (0 < ord a b) | 3 => decide (ord a b ≤ 0) | 4 => decide (0 ≤ ord a b) | 5 => decide (ord a b ≠ 0) | 6 => samev a b == true | _ => samev a b == false
theorem c_op {a b : TM} {v : AVal} (oa : a.ok) (ob : b.ok) (ra : right a) (rb : right b) {k : Nat} (hk : k < 8) (H : AHeap) (hv : SL2 H v a b) :
    DCall Tryz.prog 11 [.str (sgv k), v] H fun r H' => Gro H H' ∧ r = .tup [(tf (pv a b k)).agg, .int .i64 0] := by
  match k, hk with
  | 0, _ => exact g12s two_lt (fun H cid id h1 h2 h3 => g38 (p := fun n => decide (n < 0)) oa ob ra rb g49_ h1 h2 h3) H hv
  | 1, _ => exact g12s two_eq (fun H cid id h1 h2 h3 => g38 (p := fun n => decide (n = 0)) oa ob ra rb g46_ h1 h2 h3) H hv
  | 2, _ => exact g12s two_gt (fun H cid id h1 h2 h3 => g38 (p := fun n => decide (0 < n)) oa ob ra rb g51_ h1 h2 h3) H hv
  | 3, _ => exact g12s two_le (fun H cid id h1 h2 h3 => g38 (p := fun n => decide (n ≤ 0)) oa ob ra rb g48_ h1 h2 h3) H hv
  | 4, _ => exact g12s two_ge (fun H cid id h1 h2 h3 => g38 (p := fun n => decide (0 ≤ n)) oa ob ra rb g50_ h1 h2 h3) H hv
  | 5, _ => exact g12s two_ne (fun H cid id h1 h2 h3 => g38 (p := fun n => decide (n ≠ 0)) oa ob ra rb g47_ h1 h2 h3) H hv
  | 6, _ => exact g12s two_same (fun H cid id h1 h2 h3 => g41 oa ob ra rb h1 h2 h3) H hv
  | 7, _ => exact g12s two_diff (fun H cid id h1 h2 h3 => g41 oa ob ra rb h1 h2 h3) H hv
theorem g111 {a b : TM} (oa : a.ok) (ob : b.ok) (ra : right a) (rb : right b) (H : AHeap) : DCall Tryz.prog 121 [a.agg, b.agg] H fun r H' => r = .bool (decide (ord a b < 0)) ∧ H' = H := by
  have h : DCall Tryz.prog 121 [a.agg, b.agg] AHeap.empty fun r H' => ∃ n, r = .bool n ∧ n = decide (ord a b < 0) := by
    obtain ⟨H1, hH1, g1, n1, f1⟩ := psh AHeap.empty (.cells 25 (TM.c5 a))
    obtain ⟨H2, hH2, g2, n2, f2⟩ := psh H1 (.cells 25 (TM.c5 b))
    have a2 := (f2 _ (by omega)).trans g1
    have la := load_all (n := 5) a2 rfl
    have lb := load_all (n := 5) g2 rfl
    have ix0 : ([.int .i64 (ord a b), .int .i64 0] : List AVal)[0]? = some (.int .i64 (ord a b)) := rfl
    have ix1 : ([.int .i64 (ord a b), .int .i64 0] : List AVal)[1]? = some (.int .i64 0) := rfl
    have c : abin .lss (.int .i64 (ord a b)) (.int .i64 0) = some (.bool (decide (ord a b < 0))) := rfl
    refine DCall.of_body (fn := Tryz.f121) (by kernel_rfl) c121 (by kernel_rfl) (by simp [f121]) ?_
    unfold f121
    simp only []
    refine DR.go rfl ?_
    simp -dsimp only [SZ, EZ, astep, aun, AVal.cells, seval, ← hH1, ← hH2]
    refine DR.go rfl ?_
    simp -dsimp only [SZ, EZ, astep, aun, AVal.cells, seval, la, lb]
    refine (g29 oa ob ra rb H2).mono ?_
    rintro r H' ⟨rfl, he⟩
    obtain rfl := he.symm
    simp -dsimp only [SZ, EZ, astep, aun, AVal.cells, seval, ix0, ix1]
    refine DR.go rfl ?_
    simp -dsimp only [SZ, EZ, astep, aun, AVal.cells, seval, c]
    refine DR.nm rfl ?_
    exact DR.ret ⟨_, by simp [aresult, ares, Env.get] <;> rfl, _, rfl, rfl⟩
  exact (DCall.bools (TM.pures22 a b) h H).mono fun r H' ⟨⟨n, h1, h3⟩, h2⟩ => ⟨by rw [h1, h3], h2⟩
section
variable {u a b : TM} {cid : Nat} {H : AHeap}
theorem gmin (ok : u.ok) (hu0 : u.l[0]? = some a) (hu1 : u.l[1]? = some b) (ra : right a) (rb : right b) (g : H.get cid = some (.cells 53 (callC u))) :
    DCallX Tryz.prog 93 [.ptr cid 0] H (Tells H (fun z => z = if ord b a < 0 then b else a) (fun _ => False)) := by
  have oa := TM.ok_at ok hu0
  have ob := TM.ok_at ok hu1
  have key : DCall Tryz.prog 93 [.ptr cid 0] H fun r H' => Gro H H' ∧ r = (if ord b a < 0 then b else a).agg := by
    obtain ⟨H1, hH1, g1, n1, f1⟩ := psh H (.cells 25 z25)
    have hz : z25 = [.int .i64 0, .int .i64 0, .flt .f64 0, .str ⟨#[]⟩, .nils] := rfl
    have b1 : Gro H H1 := ⟨by omega, f1⟩
    have lc := load_cell (b1.get g) (o := 0) (v := u.row) rfl
    have i0 : aiaddr H1 5 u.row (.int .i64 0) = some (.rop (a.cells ++ TM.flat (u.l.drop 1))) := TM.row_at (i := 0) ok hu0 H1
    have i1 : aiaddr H1 5 u.row (.int .i64 1) = some (.rop (b.cells ++ TM.flat (u.l.drop 2))) := TM.row_at (i := 1) ok hu1 H1
    have l0 := TM.load a (TM.flat (u.l.drop 1)) H1
    have l1 := TM.load b (TM.flat (u.l.drop 2)) H1
    refine DCall.of_body (fn := Tryz.f93) (by kernel_rfl) c93 (by kernel_rfl) (by simp [f93]) ?_
    unfold f93
    simp only []
    refine DR.go rfl ?_
    simp -dsimp only [SZ, EZ, astep, aun, AVal.cells, seval, ← hz, ← hH1]
    refine DR.nm rfl ?_
    refine DR.draw (by kernel_rfl) d93_1 ?_
    simp -dsimp only [m93_1, SZ, EZ, astep, aun, AVal.cells, seval, DS_nil, DS_cons, seesAll, staysAll, abit, List.getD_cons_zero, List.getD_cons_succ, AOp.quiet, AOp.reads, true_and, and_true, decide_true, decide_false, and_self, lc, i0, l0, i1, l1]
    refine (g111 ob oa rb ra H1).mono ?_
    rintro r H' ⟨rfl, he⟩
    obtain rfl := he.symm
    simp -dsimp only [SZ, EZ, astep, aun, AVal.cells, seval, DS_nil, DS_cons, seesAll, staysAll, abit, List.getD_cons_zero, List.getD_cons_succ, AOp.quiet, AOp.reads, true_and, and_true, decide_true, decide_false, and_self, lc, i0, l0, i1, l1]
    by_cases h : ord b a < 0
    · have hd : decide (ord b a < 0) = true := by simp [h]
      have s1 := store_all (n := 5) g1 (new := TM.c5 b) rfl (TM.ones5 _) rfl
      obtain ⟨H2, hH2, g2, n2, f2⟩ := upd g1 (.cells 25 (TM.c5 b))
      have l2 := load_all (n := 5) g2 rfl
      rw [hd, if_pos h]
      refine DR.ye rfl rfl ?_
      refine DR.go rfl ?_
      simp -dsimp only [SZ, EZ, astep, aun, AVal.cells, seval, lc, i1, l1, s1, ← hH2]
      refine DR.nm rfl ?_
      exact DR.ret ⟨b.agg, by simp [aresult, ares, Env.get, l2], ⟨by omega, fun j hj => by rw [f2 j (by omega), f1 j hj]⟩, rfl⟩
    · have hd : decide (ord b a < 0) = false := by simp [h]
      have s1 := store_all (n := 5) g1 (new := TM.c5 a) rfl (TM.ones5 _) rfl
      obtain ⟨H2, hH2, g2, n2, f2⟩ := upd g1 (.cells 25 (TM.c5 a))
      have l2 := load_all (n := 5) g2 rfl
      rw [hd, if_neg h]
      refine DR.ne rfl rfl ?_
      refine DR.go rfl ?_
      simp -dsimp only [SZ, EZ, astep, aun, AVal.cells, seval, lc, i0, l0, s1, ← hH2]
      refine DR.nm rfl ?_
      exact DR.ret ⟨a.agg, by simp [aresult, ares, Env.get, l2], ⟨by omega, fun j hj => by rw [f2 j (by omega), f1 j hj]⟩, rfl⟩
  refine key.monoX ?_
  rintro r H' ⟨hg, rfl⟩
  exact ⟨hg, .inl ⟨_, by split <;> assumption, rfl, rfl⟩⟩
theorem gmax (ok : u.ok) (hu0 : u.l[0]? = some a) (hu1 : u.l[1]? = some b) (ra : right a) (rb : right b) (g : H.get cid = some (.cells 53 (callC u))) :
    DCallX Tryz.prog 94 [.ptr cid 0] H (Tells H (fun z => z = if ord a b < 0 then b else a) (fun _ => False)) := by
  have oa := TM.ok_at ok hu0
  have ob := TM.ok_at ok hu1
  have key : DCall Tryz.prog 94 [.ptr cid 0] H fun r H' => Gro H H' ∧ r = (if ord a b < 0 then b else a).agg := by
    obtain ⟨H1, hH1, g1, n1, f1⟩ := psh H (.cells 25 z25)
    have hz : z25 = [.int .i64 0, .int .i64 0, .flt .f64 0, .str ⟨#[]⟩, .nils] := rfl
    have b1 : Gro H H1 := ⟨by omega, f1⟩
    have lc := load_cell (b1.get g) (o := 0) (v := u.row) rfl
    have i0 : aiaddr H1 5 u.row (.int .i64 0) = some (.rop (a.cells ++ TM.flat (u.l.drop 1))) := TM.row_at (i := 0) ok hu0 H1
    have i1 : aiaddr H1 5 u.row (.int .i64 1) = some (.rop (b.cells ++ TM.flat (u.l.drop 2))) := TM.row_at (i := 1) ok hu1 H1
    have l0 := TM.load a (TM.flat (u.l.drop 1)) H1
    have l1 := TM.load b (TM.flat (u.l.drop 2)) H1
    refine DCall.of_body (fn := Tryz.f94) (by kernel_rfl) c94 (by kernel_rfl) (by simp [f94]) ?_
    unfold f94
    simp only []
    refine DR.go rfl ?_
    simp -dsimp only [SZ, EZ, astep, aun, AVal.cells, seval, ← hz, ← hH1]
    refine DR.nm rfl ?_
    refine DR.draw (by kernel_rfl) d94_1 ?_
    simp -dsimp only [m94_1, SZ, EZ, astep, aun, AVal.cells, seval, DS_nil, DS_cons, seesAll, staysAll, abit, List.getD_cons_zero, List.getD_cons_succ, AOp.quiet, AOp.reads, true_and, and_true, decide_true, decide_false, and_self, lc, i0, l0, i1, l1]
    refine (g111 oa ob ra rb H1).mono ?_
    rintro r H' ⟨rfl, he⟩
    obtain rfl := he.symm
    simp -dsimp only [SZ, EZ, astep, aun, AVal.cells, seval, DS_nil, DS_cons, seesAll, staysAll, abit, List.getD_cons_zero, List.getD_cons_succ, AOp.quiet, AOp.reads, true_and, and_true, decide_true, decide_false, and_self, lc, i0, l0, i1, l1]
    by_cases h : ord a b < 0
    · have hd : decide (ord a b < 0) = true := by simp [h]
      have s1 := store_all (n := 5) g1 (new := TM.c5 b) rfl (TM.ones5 _) rfl
      obtain ⟨H2, hH2, g2, n2, f2⟩ := upd g1 (.cells 25 (TM.c5 b))
      have l2 := load_all (n := 5) g2 rfl
      rw [hd, if_pos h]
      refine DR.ye rfl rfl ?_
      refine DR.go rfl ?_
      simp -dsimp only [SZ, EZ, astep, aun, AVal.cells, seval, lc, i1, l1, s1, ← hH2]
      refine DR.nm rfl ?_
      exact DR.ret ⟨b.agg, by simp [aresult, ares, Env.get, l2], ⟨by omega, fun j hj => by rw [f2 j (by omega), f1 j hj]⟩, rfl⟩
    · have hd : decide (ord a b < 0) = false := by simp [h]
      have s1 := store_all (n := 5) g1 (new := TM.c5 a) rfl (TM.ones5 _) rfl
      obtain ⟨H2, hH2, g2, n2, f2⟩ := upd g1 (.cells 25 (TM.c5 a))
      have l2 := load_all (n := 5) g2 rfl
      rw [hd, if_neg h]
      refine DR.ne rfl rfl ?_
      refine DR.go rfl ?_
      simp -dsimp only [SZ, EZ, astep, aun, AVal.cells, seval, lc, i0, l0, s1, ← hH2]
      refine DR.nm rfl ?_
      exact DR.ret ⟨a.agg, by simp [aresult, ares, Env.get, l2], ⟨by omega, fun j hj => by rw [f2 j (by omega), f1 j hj]⟩, rfl⟩
  refine key.monoX ?_
  rintro r H' ⟨hg, rfl⟩
  exact ⟨hg, .inl ⟨_, by split <;> assumption, rfl, rfl⟩⟩
end
theorem find_min : xclosed tab cmp90 100000 100 szs 28 [.str ⟨#[109, 105, 110]⟩, .int .i64 2] = some (.tup [.agg [.int .i64 2, .bool true, .fn (.func 93) [] []], .bool true]) := by kernel_rfl
theorem c_min {a b : TM} (oa : a.ok) (ob : b.ok) (ra : right a) (rb : right b) (H : AHeap) :
    DCall Tryz.prog 8 [.str ⟨#[109, 105, 110]⟩, (TM.of false [a, b]).row] H fun r H' => Called (fun y => y = if ord b a < 0 then b else a) (fun _ => False) r ∧ H' = H := by
  have ok : (TM.of false [a, b]).ok := TM.of_ok ⟨oa, ob, trivial⟩ (by show 2 ≤ 2 ^ 41; decide) (fun h => nomatch h)
  exact g9c ok (fun H => (xclosed_sound mixed tab_ok cmp90_ok find_min H).dcall) (fun H cid g => gmin ok rfl rfl ra rb g) (fun e he => he.elim) H
theorem find_max : xclosed tab cmp90 100000 100 szs 28 [.str ⟨#[109, 97, 120]⟩, .int .i64 2] = some (.tup [.agg [.int .i64 2, .bool true, .fn (.func 94) [] []], .bool true]) := by kernel_rfl
theorem c_max {a b : TM} (oa : a.ok) (ob : b.ok) (ra : right a) (rb : right b) (H : AHeap) :
    DCall Tryz.prog 8 [.str ⟨#[109, 97, 120]⟩, (TM.of false [a, b]).row] H fun r H' => Called (fun y => y = if ord a b < 0 then b else a) (fun _ => False) r ∧ H' = H := by
  have ok : (TM.of false [a, b]).ok := TM.of_ok ⟨oa, ob, trivial⟩ (by show 2 ≤ 2 ^ 41; decide) (fun h => nomatch h)
  exact g9c ok (fun H => (xclosed_sound mixed tab_ok cmp90_ok find_max H).dcall) (fun H cid g => gmax ok rfl rfl ra rb g) (fun e he => he.elim) H
end Go.Am.Rl
