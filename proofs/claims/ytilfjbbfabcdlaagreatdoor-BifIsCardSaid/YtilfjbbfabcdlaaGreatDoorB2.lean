/- The law BifIs: names of builtins. -/
import Derived.Test.YtilfjbbfabcdlaaGreatDoorB1
set_option linter.unusedVariables false
set_option linter.unusedSimpArgs false
set_option maxRecDepth 20000
namespace Go.Am.Rl
open Go.Proofs

theorem upd {H : AHeap} {id : Nat} {b0 : ABlk} (g : H.get id = some b0) (b : ABlk) : ∃ H', H' = H.set id b ∧ H'.get id = some b ∧ H'.next = H.next ∧ ∀ j, j ≠ id → H'.get j = H.get j :=
  ⟨_, rfl, by rw [AHeap.get_set, if_pos rfl, if_pos (AHeap.get_lt g)], rfl, fun j hj => by rw [AHeap.get_set, if_neg hj]⟩
theorem psh (H : AHeap) (b : ABlk) : ∃ H', H' = H.push b ∧ H'.get H.next = some b ∧ H'.next = H.next + 1 ∧ ∀ j, j < H.next → H'.get j = H.get j :=
  ⟨_, rfl, by rw [AHeap.get_push, if_pos rfl], rfl, fun j hj => by rw [AHeap.get_push, if_neg (by omega)]⟩

theorem g51e {s : ByteArray} (h : isName s = false) : DCall Tryz.prog 51 [.str s] AHeap.empty fun a H' => a = .nils := by
  obtain ⟨h0, h1, h2, h3, h4, h5, h6, h7, h8, h9, h10, h11, h12, h13, h14, h15, h16, h17, h18, h19, h20, h21, h22, h23, h24, h25, h26, h27, h28, h29, h30, h31, h32, h33, h34, h35, h36⟩ := nots h
  obtain ⟨H1, hH1, g1, n1, f1⟩ := psh AHeap.empty (.cells 9 [.str s])
  have l0 := load_cell g1 (o := 0) (v := .str s) rfl
  refine DCall.of_body (fn := Tryz.f51) (by kernel_rfl) c51 (by kernel_rfl) (by simp [f51]) ?_
  unfold f51
  simp only []
  refine DR.go rfl ?_
  simp -dsimp only [SZ, EZ, astep, aun, AVal.cells, seval, ← hH1]
  refine DR.go rfl ?_
  simp -dsimp only [SZ, EZ, astep, aun, AVal.cells, seval, l0]
  refine DR.go rfl ?_
  simp -dsimp only [SZ, EZ, astep, aun, AVal.cells, seval, h0, abin]
  refine DR.ne rfl rfl ?_
  refine DR.go rfl ?_
  simp -dsimp only [SZ, EZ, astep, aun, AVal.cells, seval, h1, abin]
  refine DR.ne rfl rfl ?_
  refine DR.go rfl ?_
  simp -dsimp only [SZ, EZ, astep, aun, AVal.cells, seval, h2, abin]
  refine DR.ne rfl rfl ?_
  refine DR.go rfl ?_
  simp -dsimp only [SZ, EZ, astep, aun, AVal.cells, seval, h3, abin]
  refine DR.ne rfl rfl ?_
  refine DR.go rfl ?_
  simp -dsimp only [SZ, EZ, astep, aun, AVal.cells, seval, h4, abin]
  refine DR.ne rfl rfl ?_
  refine DR.go rfl ?_
  simp -dsimp only [SZ, EZ, astep, aun, AVal.cells, seval, h5, abin]
  refine DR.ne rfl rfl ?_
  refine DR.go rfl ?_
  simp -dsimp only [SZ, EZ, astep, aun, AVal.cells, seval, h6, abin]
  refine DR.ne rfl rfl ?_
  refine DR.go rfl ?_
  simp -dsimp only [SZ, EZ, astep, aun, AVal.cells, seval, h7, abin]
  refine DR.ne rfl rfl ?_
  refine DR.go rfl ?_
  simp -dsimp only [SZ, EZ, astep, aun, AVal.cells, seval, h8, abin]
  refine DR.ne rfl rfl ?_
  refine DR.go rfl ?_
  simp -dsimp only [SZ, EZ, astep, aun, AVal.cells, seval, h9, abin]
  refine DR.ne rfl rfl ?_
  refine DR.go rfl ?_
  simp -dsimp only [SZ, EZ, astep, aun, AVal.cells, seval, h20, abin]
  refine DR.ne rfl rfl ?_
  refine DR.go rfl ?_
  simp -dsimp only [SZ, EZ, astep, aun, AVal.cells, seval, h19, abin]
  refine DR.ne rfl rfl ?_
  refine DR.go rfl ?_
  simp -dsimp only [SZ, EZ, astep, aun, AVal.cells, seval, h21, abin]
  refine DR.ne rfl rfl ?_
  refine DR.go rfl ?_
  simp -dsimp only [SZ, EZ, astep, aun, AVal.cells, seval, h22, abin]
  refine DR.ne rfl rfl ?_
  refine DR.go rfl ?_
  simp -dsimp only [SZ, EZ, astep, aun, AVal.cells, seval, l0]
  refine (g82n h).mono ?_
  rintro a H2 ⟨rfl, rfl⟩
  simp -dsimp only [SZ, EZ, astep, aun, AVal.cells, seval]
  obtain ⟨H3, hH3, g3, n3, f3⟩ := psh H2 (.cells 32 [.nilf])
  have st3 : astore H3 1 (.ptr H2.next 0) .nilf = some (H3.set H2.next (.cells 32 [.nilf])) := astore_one g3 (o := 0) (by decide) rfl
  obtain ⟨H4, hH4, g4, n4, f4⟩ := upd g3 (.cells 32 [.nilf])
  have l3 := load_cell g4 (o := 0) (v := .nilf) rfl
  simp -dsimp only [SZ, EZ, astep, aun, AVal.cells, seval, ← hH3, st3, ← hH4]
  refine DR.go rfl ?_
  simp -dsimp only [SZ, EZ, astep, aun, AVal.cells, seval, l3]
  refine DR.ne rfl rfl ?_
  have l4 := load_cell ((f4 AHeap.empty.next (by rw [n1]; decide)).trans ((f3 AHeap.empty.next (by rw [n1]; decide)).trans g1)) (o := 0) (v := .str s) rfl
  refine DR.go rfl ?_
  simp -dsimp only [SZ, EZ, astep, aun, AVal.cells, seval, l4]
  refine (g84n h).mono ?_
  rintro a H5 ⟨rfl, rfl⟩
  simp -dsimp only [SZ, EZ, astep, aun, AVal.cells, seval]
  refine DR.nm rfl ?_
  exact DR.ret ⟨_, by simp [aresult, ares, Env.get] <;> rfl, rfl⟩
theorem g51n {H : AHeap} {s : ByteArray} (h : isName s = false) : DCall Tryz.prog 51 [.str s] H fun a H' => a = .nils ∧ H' = H :=
  DCall.closed (Q' := fun a => a = .nils) (sz := szs) rfl (g51e h) (fun r H1 e => ⟨1, .nils, by rw [e]; rfl, rfl⟩) H
theorem g14n {H : AHeap} {s : ByteArray} {n : Int} (h : isName s = false) : DCall Tryz.prog 14 [.str s, .int .i64 n] H fun a H' => a = .tup [.bool false, .bool false] ∧ H' = H := by
  obtain ⟨h0, h1, h2, h3, h4, h5, h6, h7, h8, h9, h10, h11, h12, h13, h14, h15, h16, h17, h18, h19, h20, h21, h22, h23, h24, h25, h26, h27, h28, h29, h30, h31, h32, h33, h34, h35, h36⟩ := nots h
  refine DCall.of_body (fn := Tryz.f14) (by kernel_rfl) c14 (by kernel_rfl) (by simp [f14]) ?_
  unfold f14
  simp only []
  refine DR.go rfl ?_
  simp -dsimp only [SZ, EZ, astep, aun, AVal.cells, seval]
  refine DR.go rfl ?_
  simp -dsimp only [SZ, EZ, astep, aun, AVal.cells, seval]
  refine DR.go rfl ?_
  simp -dsimp only [SZ, EZ, astep, aun, AVal.cells, seval, h0, abin]
  refine DR.ne rfl rfl ?_
  refine DR.go rfl ?_
  simp -dsimp only [SZ, EZ, astep, aun, AVal.cells, seval, h1, abin]
  refine DR.ne rfl rfl ?_
  refine DR.go rfl ?_
  simp -dsimp only [SZ, EZ, astep, aun, AVal.cells, seval, h2, abin]
  refine DR.ne rfl rfl ?_
  refine DR.go rfl ?_
  simp -dsimp only [SZ, EZ, astep, aun, AVal.cells, seval, h3, abin]
  refine DR.ne rfl rfl ?_
  refine DR.go rfl ?_
  simp -dsimp only [SZ, EZ, astep, aun, AVal.cells, seval, h4, abin]
  refine DR.ne rfl rfl ?_
  refine DR.go rfl ?_
  simp -dsimp only [SZ, EZ, astep, aun, AVal.cells, seval, h5, abin]
  refine DR.ne rfl rfl ?_
  refine DR.go rfl ?_
  simp -dsimp only [SZ, EZ, astep, aun, AVal.cells, seval, h6, abin]
  refine DR.ne rfl rfl ?_
  refine DR.go rfl ?_
  simp -dsimp only [SZ, EZ, astep, aun, AVal.cells, seval, h7, abin]
  refine DR.ne rfl rfl ?_
  refine DR.go rfl ?_
  simp -dsimp only [SZ, EZ, astep, aun, AVal.cells, seval, h8, abin]
  refine DR.ne rfl rfl ?_
  refine DR.go rfl ?_
  simp -dsimp only [SZ, EZ, astep, aun, AVal.cells, seval, h9, abin]
  refine DR.ne rfl rfl ?_
  refine DR.go rfl ?_
  simp -dsimp only [SZ, EZ, astep, aun, AVal.cells, seval, h10, abin]
  refine DR.ne rfl rfl ?_
  refine DR.go rfl ?_
  simp -dsimp only [SZ, EZ, astep, aun, AVal.cells, seval, h11, abin]
  refine DR.ne rfl rfl ?_
  refine DR.go rfl ?_
  simp -dsimp only [SZ, EZ, astep, aun, AVal.cells, seval, h12, abin]
  refine DR.ne rfl rfl ?_
  refine DR.go rfl ?_
  simp -dsimp only [SZ, EZ, astep, aun, AVal.cells, seval, h13, abin]
  refine DR.ne rfl rfl ?_
  refine DR.go rfl ?_
  simp -dsimp only [SZ, EZ, astep, aun, AVal.cells, seval, h14, abin]
  refine DR.ne rfl rfl ?_
  refine DR.go rfl ?_
  simp -dsimp only [SZ, EZ, astep, aun, AVal.cells, seval, h15, abin]
  refine DR.ne rfl rfl ?_
  refine DR.go rfl ?_
  simp -dsimp only [SZ, EZ, astep, aun, AVal.cells, seval, h16, abin]
  refine DR.ne rfl rfl ?_
  refine DR.go rfl ?_
  simp -dsimp only [SZ, EZ, astep, aun, AVal.cells, seval, h17, abin]
  refine DR.ne rfl rfl ?_
  refine DR.go rfl ?_
  simp -dsimp only [SZ, EZ, astep, aun, AVal.cells, seval, h18, abin]
  refine DR.ne rfl rfl ?_
  refine DR.go rfl ?_
  simp -dsimp only [SZ, EZ, astep, aun, AVal.cells, seval, h19, abin]
  refine DR.ne rfl rfl ?_
  refine DR.go rfl ?_
  simp -dsimp only [SZ, EZ, astep, aun, AVal.cells, seval, h20, abin]
  refine DR.ne rfl rfl ?_
  refine DR.go rfl ?_
  simp -dsimp only [SZ, EZ, astep, aun, AVal.cells, seval, h21, abin]
  refine DR.ne rfl rfl ?_
  refine DR.go rfl ?_
  simp -dsimp only [SZ, EZ, astep, aun, AVal.cells, seval, h22, abin]
  refine DR.ne rfl rfl ?_
  refine DR.go rfl ?_
  simp -dsimp only [SZ, EZ, astep, aun, AVal.cells, seval, h23, abin]
  refine DR.ne rfl rfl ?_
  refine DR.go rfl ?_
  simp -dsimp only [SZ, EZ, astep, aun, AVal.cells, seval, h24, abin]
  refine DR.ne rfl rfl ?_
  refine DR.go rfl ?_
  simp -dsimp only [SZ, EZ, astep, aun, AVal.cells, seval, h25, abin]
  refine DR.ne rfl rfl ?_
  refine DR.go rfl ?_
  simp -dsimp only [SZ, EZ, astep, aun, AVal.cells, seval, h26, abin]
  refine DR.ne rfl rfl ?_
  refine DR.go rfl ?_
  simp -dsimp only [SZ, EZ, astep, aun, AVal.cells, seval, h27, abin]
  refine DR.ne rfl rfl ?_
  refine DR.go rfl ?_
  simp -dsimp only [SZ, EZ, astep, aun, AVal.cells, seval, h28, abin]
  refine DR.ne rfl rfl ?_
  refine DR.go rfl ?_
  simp -dsimp only [SZ, EZ, astep, aun, AVal.cells, seval, h29, abin]
  refine DR.ne rfl rfl ?_
  refine DR.go rfl ?_
  simp -dsimp only [SZ, EZ, astep, aun, AVal.cells, seval, h30, abin]
  refine DR.ne rfl rfl ?_
  refine DR.go rfl ?_
  simp -dsimp only [SZ, EZ, astep, aun, AVal.cells, seval, h31, abin]
  refine DR.ne rfl rfl ?_
  refine DR.go rfl ?_
  simp -dsimp only [SZ, EZ, astep, aun, AVal.cells, seval, h32, abin]
  refine DR.ne rfl rfl ?_
  refine DR.go rfl ?_
  simp -dsimp only [SZ, EZ, astep, aun, AVal.cells, seval, h33, abin]
  refine DR.ne rfl rfl ?_
  refine DR.go rfl ?_
  simp -dsimp only [SZ, EZ, astep, aun, AVal.cells, seval, h34, abin]
  refine DR.ne rfl rfl ?_
  refine DR.go rfl ?_
  simp -dsimp only [SZ, EZ, astep, aun, AVal.cells, seval, h35, abin]
  refine DR.ne rfl rfl ?_
  refine DR.go rfl ?_
  simp -dsimp only [SZ, EZ, astep, aun, AVal.cells, seval, h36, abin]
  refine DR.ne rfl rfl ?_
  refine DR.go rfl ?_
  simp -dsimp only [SZ, EZ, astep, aun, AVal.cells, seval]
  refine DR.nm rfl ?_
  exact DR.ret ⟨_, by simp [aresult, ares, Env.get] <;> rfl, rfl, rfl⟩
def blt0 : List AVal := [.int .i64 0, .bool false, .nilf]
theorem g24n {H : AHeap} {s : ByteArray} {n : Int} (h : isName s = false) : DCall Tryz.prog 24 [.str s, .int .i64 n] H fun a H' => a = .tup [.agg blt0, .bool false] := by
  obtain ⟨H1, hH1, g1, n1, f1⟩ := psh H (.cells 55 blt0)
  have hz : blt0 = [.int .i64 0, .bool false, .nilf] := rfl
  refine DCall.of_body (fn := Tryz.f24) (by kernel_rfl) c24 (by kernel_rfl) (by simp [f24]) ?_
  unfold f24
  simp only []
  refine DR.go rfl ?_
  simp -dsimp only [SZ, EZ, astep, aun, AVal.cells, seval, ← hz, ← hH1]
  refine DR.go rfl ?_
  simp -dsimp only [SZ, EZ, astep, aun, AVal.cells, seval]
  refine (g51n h).mono ?_
  rintro a H2 ⟨rfl, rfl⟩
  simp -dsimp only [SZ, EZ, astep, aun, AVal.cells, seval]
  refine DR.nm rfl ?_
  refine DR.loop ?_
  refine DR.go rfl ?_
  simp -dsimp only [SZ, EZ, astep, aun, AVal.cells, seval, abin]
  refine DR.ne rfl rfl ?_
  refine DR.nm rfl ?_
  refine DR.exit rfl ?_
  have st2 : astore H2 3 (.ptr H.next 0) (.agg [.int .i64 0, .bool false, .nilf]) = some (H2.set H.next (.cells 55 blt0)) := by simp [astore, g1, blt0, AVal.cells, aput, ones, AVal.one]
  obtain ⟨H3, hH3, g3, n3, f3⟩ := upd g1 (.cells 55 blt0)
  refine DR.go rfl ?_
  simp -dsimp only [SZ, EZ, astep, aun, AVal.cells, seval, Env.parts, afill, st2, ← hH3]
  have ld : aload H3 (some 3) (.ptr H.next 0) = some (.agg blt0) := by simp [aload, cellsAt, g3, blt0]
  refine DR.nm rfl ?_
  exact DR.ret ⟨.tup [.agg blt0, .bool false], by simp [aresult, ares, Env.get, ld], rfl⟩
theorem g13n {H : AHeap} {s : ByteArray} {n : Int} (h : isName s = false) : DCall Tryz.prog 13 [.str s, .int .i64 n] H fun a H' => a = .tup [.bool false, .bool false] := by
  refine DCall.of_body (fn := Tryz.f13) (by kernel_rfl) c13 (by kernel_rfl) (by simp [f13]) ?_
  unfold f13
  simp only []
  refine DR.go rfl ?_
  simp -dsimp only [SZ, EZ, astep, aun, AVal.cells, seval]
  refine DR.go rfl ?_
  simp -dsimp only [SZ, EZ, astep, aun, AVal.cells, seval]
  refine (g24n h).mono ?_
  rintro a H1 rfl
  obtain ⟨H2, hH2, g2, n2, f2⟩ := psh H1 (.cells 55 blt0)
  have hz : blt0 = [.int .i64 0, .bool false, .nilf] := rfl
  have st2 : astore H2 3 (.ptr H1.next 0) (.agg blt0) = some (H2.set H1.next (.cells 55 blt0)) := by simp [astore, g2, blt0, AVal.cells, aput, ones, AVal.one]
  obtain ⟨H3, hH3, g3, n3, f3⟩ := upd g2 (.cells 55 blt0)
  have ld : aload H3 none (.ptr H1.next 1) = some (.bool false) := load_cell g3 (o := 1) rfl
  simp -dsimp only [SZ, EZ, astep, aun, AVal.cells, seval, ← hz, ← hH2, st2, ← hH3]
  refine DR.nm rfl ?_
  refine DR.draw (by kernel_rfl) d13_2 ?_
  simp -dsimp only [m13_2, SZ, EZ, astep, aun, AVal.cells, seval, DS_nil, DS_cons, seesAll, staysAll, abit, List.getD_cons_zero, List.getD_cons_succ, AOp.quiet, AOp.reads, true_and, and_true, decide_true, decide_false, and_self, ld]
  refine DR.nm rfl ?_
  exact DR.ret ⟨_, by simp [aresult, ares, Env.get] <;> rfl, rfl⟩
def len1 (s : ByteArray) : Bool := decide ((s.size : Int) > 100)
theorem g6n {H : AHeap} {s : ByteArray} {n : Int} (h : isName s = false) : DCall Tryz.prog 6 [.str s, .int .i64 n] H fun a H' => a = .bool true := by
  refine DCall.of_body (fn := Tryz.f6) (by kernel_rfl) c6 (by kernel_rfl) (by simp [f6]) ?_
  unfold f6
  simp only []
  refine DR.go rfl ?_
  simp -dsimp only [SZ, EZ, astep, aun, AVal.cells, seval]
  refine DR.go rfl ?_
  simp -dsimp only [SZ, EZ, astep, aun, AVal.cells, seval]
  refine (g7 H).mono ?_
  rintro a H1 ⟨rfl, rfl⟩
  simp -dsimp only [SZ, EZ, astep, aun, AVal.cells, seval]
  refine DR.ne rfl rfl ?_
  refine DR.go rfl ?_
  simp -dsimp only [SZ, EZ, astep, aun, AVal.cells, seval, abin, alenT, alen]
  by_cases hc : len1 s = true
  · have hc' : decide ((s.size : Int) > 100) = true := hc
    rw [hc']
    refine DR.ye rfl rfl ?_
    refine DR.go rfl ?_
    simp -dsimp only [SZ, EZ, astep, aun, AVal.cells, seval]
    refine DR.nm rfl ?_
    exact DR.ret ⟨_, by simp [aresult, ares, Env.get] <;> rfl, rfl⟩
  · have hc' : decide ((s.size : Int) > 100) = false := by simpa [len1] using hc
    rw [hc']
    refine DR.ne rfl rfl ?_
    refine DR.go rfl ?_
    simp -dsimp only [SZ, EZ, astep, aun, AVal.cells, seval]
    refine (g13n h).mono ?_
    rintro a H2 rfl
    simp -dsimp only [SZ, EZ, astep, aun, AVal.cells, seval]
    refine DR.go rfl ?_
    simp -dsimp only [SZ, EZ, astep, aun, AVal.cells, seval]
    refine (g14n h).mono ?_
    rintro a H3 ⟨rfl, rfl⟩
    simp -dsimp only [SZ, EZ, astep, aun, AVal.cells, seval]
    refine DR.go rfl ?_
    simp -dsimp only [SZ, EZ, astep, aun, AVal.cells, seval, abin]
    refine DR.nm rfl ?_
    exact DR.ret ⟨_, by simp [aresult, ares, Env.get] <;> rfl, rfl⟩
theorem isName_eq {s : ByteArray} (h : isName s = true) : s ∈ names := by
  obtain ⟨w, hw, he⟩ := List.any_eq_true.mp h
  have : s = w := bytes_eq (by rw [beq_toListBytes]; exact he)
  exact this ▸ hw
end Go.Am.Rl

