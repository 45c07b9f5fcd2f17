/- Parts: OH, OI, OJ. -/
import Derived.Test.YtcmaphhbecjbjaaGreatDoorOY
set_option linter.unusedVariables false
set_option linter.unusedSimpArgs false
set_option maxRecDepth 20000
/- Any two terms looked at for being the same: there is an answer; identical terms are the same; the law's 'right'. -/
namespace Go.Am.Rl
open Go.Proofs

theorem g8xr {l : List TM} (ok : (TM.of false l).ok) {H : AHeap} {id : Nat} {cap : Option Nat} (g : H.get id = some (.cells 25 (TM.flat l))) : DCall Tryz.prog 7 [.sl id 0 l.length cap] H fun r H' => (∃ b, r = .bool b ∧ (b = true → ∀ x ∈ l, right x)) ∧ H' = H := by
  refine DCall.framed (Q' := fun r => ∃ b, r = .bool b ∧ (b = true → ∀ x ∈ l, right x)) (flat_freeze l g) (TM.purer (u := TM.of false l)) (g8x false l ok) ?_
  rintro r H1 ⟨b, rfl, hb⟩
  exact ⟨1, .bool b, rfl, rfl, b, rfl, hb⟩
section
variable {a b : TM} {H : AHeap} {i1 i2 : Nat} {k k' : List AItem} {Q : Env → AHeap → Prop}
theorem loop9t (oa : a.ok) (ob : b.ok) (hlen : a.l.length = b.l.length) (ih : ∀ x ∈ a.l, x.ok → ∀ y : TM, y.ok → ∀ H, DCall Tryz.prog 9 [x.agg, y.agg] H fun r H' => (∃ z, r = .bool z) ∧ H' = H)
    (g1 : H.get i1 = some (.cells 25 (TM.c5 a))) (g2 : H.get i2 = some (.cells 25 (TM.c5 b))) (hk : aexitTo 0 k = some k') (hend : DR Tryz.prog (kof k9) 62 k' [] H Q) (hret : ∀ T, T.get 4 = some (.bool false) → Q T H) :
    ∀ (e i : Nat), i + e = a.l.length → DR Tryz.prog (kof k9) 62 (.code l9_0 :: .inLoop l9_0 :: k) [(2, .ptr i1 0), (3, .ptr i2 0), (5, .int .i64 (i : Nat))] H Q := by
  intro e
  have l4 := load_cell g1 (o := 4) (v := a.row) rfl
  have m4 := load_cell g2 (o := 4) (v := b.row) rfl
  have hl := TM.lenT oa H
  induction e with
  | zero =>
    intro i hi
    have hc : abin .lss (.int .i64 (i : Nat)) (.int .i64 (a.l.length : Nat)) = some (.bool false) := by simp [abin]; omega
    refine DR.go rfl ?_
    simp -dsimp only [SZ, EZ, astep, aun, AVal.cells, seval, l4, hl, hc]
    refine DR.ne rfl rfl ?_
    refine DR.nm rfl ?_
    refine DR.exit hk ?_
    exact DR.only [] hend
  | succ e ih2 =>
    intro i hi
    have hc : abin .lss (.int .i64 (i : Nat)) (.int .i64 (a.l.length : Nat)) = some (.bool true) := by simp [abin]; omega
    have hlt : i < a.l.length := by omega
    have hx : a.l[i]? = some a.l[i] := List.getElem?_eq_getElem hlt
    have hlt' : i < b.l.length := by omega
    have hy : b.l[i]? = some b.l[i] := List.getElem?_eq_getElem hlt'
    have hxo := TM.ok_at oa hx
    have hyo := TM.ok_at ob hy
    have ra := TM.row_at oa hx H
    have la := TM.load a.l[i] (TM.flat (a.l.drop (i + 1))) H
    have rb := TM.row_at ob hy H
    have lb := TM.load b.l[i] (TM.flat (b.l.drop (i + 1))) H
    have hle := TM.len_le oa
    have hw : IntKind.i64.wrap ((i : Int) + 1) = ((i + 1 : Nat) : Int) := wrap64 (n := i + 1) (by omega)
    refine DR.go rfl ?_
    simp -dsimp only [SZ, EZ, astep, aun, AVal.cells, seval, l4, hl, hc]
    refine DR.ye rfl rfl ?_
    refine DR.nm rfl ?_
    refine DR.draw (by kernel_rfl) d9_6 ?_
    simp -dsimp only [m9_6, SZ, EZ, astep, aun, AVal.cells, seval, DS_nil, DS_cons, seesAll, staysAll, abit, List.getD_cons_zero, List.getD_cons_succ, AOp.quiet, AOp.reads, true_and, and_true, decide_true, decide_false, and_self, l4, m4, ra, la, rb, lb]
    refine (ih _ (List.getElem_mem hlt) hxo _ hyo H).mono ?_
    rintro r H' ⟨⟨z, rfl⟩, he⟩
    obtain rfl := he.symm
    cases z with
    | true =>
      simp -dsimp only [SZ, EZ, astep, aun, AVal.cells, seval, DS_nil, DS_cons, seesAll, staysAll, abit, List.getD_cons_zero, List.getD_cons_succ, AOp.quiet, AOp.reads, true_and, and_true, decide_true, decide_false, and_self, l4, m4, ra, la, rb, lb, Bool.not_true]
      refine DR.ne rfl rfl ?_
      refine DR.go rfl ?_
      simp -dsimp only [SZ, EZ, astep, aun, AVal.cells, seval, hw, abin]
      refine DR.nm rfl ?_
      refine DR.inLoop ?_
      exact ih2 (i + 1) (by omega)
    | false =>
      simp -dsimp only [SZ, EZ, astep, aun, AVal.cells, seval, DS_nil, DS_cons, seesAll, staysAll, abit, List.getD_cons_zero, List.getD_cons_succ, AOp.quiet, AOp.reads, true_and, and_true, decide_true, decide_false, and_self, l4, m4, ra, la, rb, lb, Bool.not_false]
      refine DR.ye rfl rfl ?_
      refine DR.go rfl ?_
      simp -dsimp only [SZ, EZ, astep, aun, AVal.cells, seval]
      refine DR.nm rfl ?_
      exact DR.ret (hret _ rfl)
end
theorem g9t : ∀ a : TM, a.ok → ∀ b : TM, b.ok → ∀ H : AHeap, DCall Tryz.prog 9 [a.agg, b.agg] H fun r H' => (∃ z, r = .bool z) ∧ H' = H := by
  refine TM.all fun a ih oa b ob H => ?_
  have h : DCall Tryz.prog 9 [a.agg, b.agg] AHeap.empty fun r H' => ∃ z, r = .bool z ∧ True := by
    obtain ⟨H1, hH1, g1, n1, f1⟩ := psh AHeap.empty (.cells 25 (TM.c5 a))
    obtain ⟨H2, hH2, g2, n2, f2⟩ := psh H1 (.cells 25 (TM.c5 b))
    have t1 := (f2 _ (by rw [n1]; omega)).trans g1
    have a0 := load_cell t1 (o := 0) (v := .int .i64 a.k) rfl
    have a1 := load_cell t1 (o := 1) (v := .int .i64 a.n) rfl
    have a2 := load_cell t1 (o := 2) (v := .flt .f64 a.f) rfl
    have a3 := load_cell t1 (o := 3) (v := .str a.s) rfl
    have a4 := load_cell t1 (o := 4) (v := a.row) rfl
    have b0 := load_cell g2 (o := 0) (v := .int .i64 b.k) rfl
    have b1 := load_cell g2 (o := 1) (v := .int .i64 b.n) rfl
    have b2 := load_cell g2 (o := 2) (v := .flt .f64 b.f) rfl
    have b3 := load_cell g2 (o := 3) (v := .str b.s) rfl
    have b4 := load_cell g2 (o := 4) (v := b.row) rfl
    have hla := TM.lenT oa H2
    have hlb := TM.lenT ob H2
    have e0 : ∀ f : Nat, aext 0 [.flt .f64 f] = some (.int .u64 f) := fun f => rfl
    obtain ⟨z0, c0⟩ : ∃ z, abin .neq (.int .i64 a.k) (.int .i64 b.k) = some (.bool z) := ⟨_, rfl⟩
    obtain ⟨z1, c1⟩ : ∃ z, abin .neq (.int .i64 a.n) (.int .i64 b.n) = some (.bool z) := ⟨_, rfl⟩
    obtain ⟨z2, c2⟩ : ∃ z, abin .neq (.str a.s) (.str b.s) = some (.bool z) := ⟨_, rfl⟩
    obtain ⟨z3, c3⟩ : ∃ z, abin .neq (.int .u64 (a.f : Nat)) (.int .u64 (b.f : Nat)) = some (.bool z) := ⟨_, rfl⟩
    refine DCall.of_body (fn := Tryz.f9) (by kernel_rfl) c9 (by kernel_rfl) (by simp [f9]) ?_
    unfold f9
    simp only []
    refine DR.go rfl ?_
    simp -dsimp only [SZ, EZ, astep, aun, AVal.cells, seval, ← hH1, ← hH2]
    cases z0 with
    | true =>
      refine DR.nm rfl ?_
      refine DR.draw (by kernel_rfl) d9_1 ?_
      simp -dsimp only [m9_1, SZ, EZ, astep, aun, AVal.cells, seval, DS_nil, DS_cons, seesAll, staysAll, abit, List.getD_cons_zero, List.getD_cons_succ, AOp.quiet, AOp.reads, true_and, and_true, decide_true, decide_false, and_self, a0, a1, a2, a3, a4, b0, b1, b2, b3, b4, hla, hlb, e0, c0]
      refine DR.ye rfl rfl ?_
      refine DR.go rfl ?_
      simp -dsimp only [SZ, EZ, astep, aun, AVal.cells, seval]
      refine DR.nm rfl ?_
      exact DR.ret ⟨_, by simp [aresult, ares, Env.get] <;> rfl, _, rfl, trivial⟩
    | false => ?_
    cases z1 with
    | true =>
      refine DR.nm rfl ?_
      refine DR.draw (by kernel_rfl) d9_1 ?_
      simp -dsimp only [m9_1, SZ, EZ, astep, aun, AVal.cells, seval, DS_nil, DS_cons, seesAll, staysAll, abit, List.getD_cons_zero, List.getD_cons_succ, AOp.quiet, AOp.reads, true_and, and_true, decide_true, decide_false, and_self, a0, a1, a2, a3, a4, b0, b1, b2, b3, b4, hla, hlb, e0, c0, c1]
      refine DR.ye rfl rfl ?_
      refine DR.go rfl ?_
      simp -dsimp only [SZ, EZ, astep, aun, AVal.cells, seval]
      refine DR.nm rfl ?_
      exact DR.ret ⟨_, by simp [aresult, ares, Env.get] <;> rfl, _, rfl, trivial⟩
    | false => ?_
    cases z2 with
    | true =>
      refine DR.nm rfl ?_
      refine DR.draw (by kernel_rfl) d9_1 ?_
      simp -dsimp only [m9_1, SZ, EZ, astep, aun, AVal.cells, seval, DS_nil, DS_cons, seesAll, staysAll, abit, List.getD_cons_zero, List.getD_cons_succ, AOp.quiet, AOp.reads, true_and, and_true, decide_true, decide_false, and_self, a0, a1, a2, a3, a4, b0, b1, b2, b3, b4, hla, hlb, e0, c0, c1, c2]
      refine DR.ye rfl rfl ?_
      refine DR.go rfl ?_
      simp -dsimp only [SZ, EZ, astep, aun, AVal.cells, seval]
      refine DR.nm rfl ?_
      exact DR.ret ⟨_, by simp [aresult, ares, Env.get] <;> rfl, _, rfl, trivial⟩
    | false => ?_
    cases z3 with
    | true =>
      refine DR.nm rfl ?_
      refine DR.draw (by kernel_rfl) d9_1 ?_
      simp -dsimp only [m9_1, SZ, EZ, astep, aun, AVal.cells, seval, DS_nil, DS_cons, seesAll, staysAll, abit, List.getD_cons_zero, List.getD_cons_succ, AOp.quiet, AOp.reads, true_and, and_true, decide_true, decide_false, and_self, a0, a1, a2, a3, a4, b0, b1, b2, b3, b4, hla, hlb, e0, c0, c1, c2, c3]
      refine DR.ye rfl rfl ?_
      refine DR.go rfl ?_
      simp -dsimp only [SZ, EZ, astep, aun, AVal.cells, seval]
      refine DR.nm rfl ?_
      exact DR.ret ⟨_, by simp [aresult, ares, Env.get] <;> rfl, _, rfl, trivial⟩
    | false => ?_
    by_cases hl : a.l.length = b.l.length
    · have c4 : abin .neq (.int .i64 (a.l.length : Nat)) (.int .i64 (b.l.length : Nat)) = some (.bool false) := neqF (by omega)
      refine DR.nm rfl ?_
      refine DR.draw (by kernel_rfl) d9_1 ?_
      simp -dsimp only [m9_1, SZ, EZ, astep, aun, AVal.cells, seval, DS_nil, DS_cons, seesAll, staysAll, abit, List.getD_cons_zero, List.getD_cons_succ, AOp.quiet, AOp.reads, true_and, and_true, decide_true, decide_false, and_self, a0, a1, a2, a3, a4, b0, b1, b2, b3, b4, hla, hlb, e0, c0, c1, c2, c3, c4]
      refine DR.ne rfl rfl ?_
      refine DR.go rfl ?_
      simp -dsimp only [SZ, EZ, astep, aun, AVal.cells, seval]
      refine DR.nm rfl ?_
      refine DR.loop ?_
      refine loop9t oa ob hl (fun x hx hxo y hyo H => ih x hx hxo y hyo H) t1 g2 rfl ?_ (fun T hT => ⟨.bool false, by simp [aresult, ares, hT], _, rfl, trivial⟩) a.l.length 0 (by omega)
      refine DR.go rfl ?_
      simp -dsimp only [SZ, EZ, astep, aun, AVal.cells, seval]
      refine DR.nm rfl ?_
      exact DR.ret ⟨_, by simp [aresult, ares, Env.get] <;> rfl, _, rfl, trivial⟩
    · have c4 : abin .neq (.int .i64 (a.l.length : Nat)) (.int .i64 (b.l.length : Nat)) = some (.bool true) := neqT (by omega)
      refine DR.nm rfl ?_
      refine DR.draw (by kernel_rfl) d9_1 ?_
      simp -dsimp only [m9_1, SZ, EZ, astep, aun, AVal.cells, seval, DS_nil, DS_cons, seesAll, staysAll, abit, List.getD_cons_zero, List.getD_cons_succ, AOp.quiet, AOp.reads, true_and, and_true, decide_true, decide_false, and_self, a0, a1, a2, a3, a4, b0, b1, b2, b3, b4, hla, hlb, e0, c0, c1, c2, c3, c4]
      refine DR.ye rfl rfl ?_
      refine DR.go rfl ?_
      simp -dsimp only [SZ, EZ, astep, aun, AVal.cells, seval]
      refine DR.nm rfl ?_
      exact DR.ret ⟨_, by simp [aresult, ares, Env.get] <;> rfl, _, rfl, trivial⟩
  exact (DCall.bools (TM.pures22 a b) h H).mono fun r H' ⟨⟨n, h1, _⟩, h2⟩ => ⟨⟨n, h1⟩, h2⟩
end Go.Am.Rl

/- The law BifOrders: its loop over the signs; what follows. -/
namespace Go.Am.Rl
open Go.Proofs

def cnt (p : Nat → Bool) : Nat → Nat
  | 0 => 0
  | i + 1 => cnt p i + (if i < 3 ∧ p i = true then 1 else 0)
theorem cnt_le (p : Nat → Bool) : ∀ i, cnt p i ≤ i
  | 0 => Nat.le_refl _
  | i + 1 => by have := cnt_le p i; simp only [cnt]; split <;> omega
abbrev bools (p : Nat → Bool) (i : Nat) : List AVal := (List.range i).map fun k => .bool (p k)
abbrev signs8 : List AVal := (List.range 8).map fun k => .str (sgv k)
theorem bools_succ (p : Nat → Bool) (i : Nat) : bools p i ++ [.bool (p i)] = bools p (i + 1) := by
  unfold bools
  rw [List.range_succ, List.map_append]; rfl
/-- What stays so in the loop. -/
structure Inv4 (a b : TM) (v : AVal) (i2 i3 sid N0 : Nat) (p : Nat → Bool) (H : AHeap) (w : AVal) (i : Nat) : Prop where
  ga : H.get i2 = some (.cells 25 (TM.c5 a))
  gb : H.get i3 = some (.cells 25 (TM.c5 b))
  gv : SL2 H v a b
  gs : H.get sid = some (.cells 9 signs8)
  gw : Grow H 4 1 w i (bools p i)
  hw : ∀ j, rid w = some j → N0 ≤ j
  hn : N0 ≤ H.next
section
variable {a b : TM} {v : AVal} {i2 i3 sid N0 : Nat} {p : Nat → Bool} {cap : Option Nat} {k k' : List AItem} {Q : Env → AHeap → Prop}
theorem loop4s (hop : ∀ i, i < 8 → ∀ H, SL2 H v a b → DCall Tryz.prog 11 [.str (sgv i), v] H fun r H' => Gro H H' ∧ r = .tup [(tf (p i)).agg, .int .i64 0]) (h2 : i2 < N0) (h3 : i3 < N0) (hs : sid < N0) (hvN : ∀ id cap, v = .sl id 0 2 cap → id < N0)
    (hk : aexitTo 0 k = some k') (hend : ∀ H w, Inv4 a b v i2 i3 sid N0 p H w 8 → DR Tryz.prog (kof k4) 182 k' [(2, .ptr i2 0), (3, .ptr i3 0), (6, .int .i64 (cnt p 8 : Nat)), (8, w)] H Q) :
    ∀ (e i : Nat) (H : AHeap) (w : AVal), i + e = 8 → Inv4 a b v i2 i3 sid N0 p H w i → DR Tryz.prog (kof k4) 182 (.code l4_0 :: .inLoop l4_0 :: k) [(2, .ptr i2 0), (3, .ptr i3 0), (5, v), (6, .int .i64 (cnt p i : Nat)), (7, .sl sid 0 8 cap), (8, w), (9, .int .i64 (i : Nat))] H Q := by
  have h8 : ∀ H : AHeap, alenT H 1 (.sl sid 0 8 cap) = some 8 := fun H => rfl
  intro e
  induction e with
  | zero =>
    intro i H w hi hI
    obtain rfl : i = 8 := by omega
    have hc : abin .lss (.int .i64 ((8 : Nat) : Int)) (.int .i64 8) = some (.bool false) := rfl
    refine DR.go rfl ?_
    simp -dsimp only [SZ, EZ, astep, aun, AVal.cells, seval, h8, hc]
    refine DR.ne rfl rfl ?_
    refine DR.nm rfl ?_
    refine DR.exit hk ?_
    exact DR.only [2, 3, 6, 8] (hend H w hI)
  | succ e ih2 =>
    intro i H w hi hI
    have hi8 : i < 8 := by omega
    have hc : abin .lss (.int .i64 (i : Nat)) (.int .i64 8) = some (.bool true) := by simp [abin]; omega
    have ha : aiaddr H 1 (.sl sid 0 8 cap) (.int .i64 (i : Nat)) = some (.ptr sid i) := by
      simp only [aiaddr]
      rw [if_pos ⟨by omega, by omega⟩]
      simp
    have hl : aload H none (.ptr sid i) = some (.str (sgv i)) := load_cell hI.gs (by
      rw [List.getElem?_map, List.getElem?_range (by omega)]; rfl)
    have hz : z25 = [.int .i64 0, .int .i64 0, .flt .f64 0, .str ⟨#[]⟩, .nils] := rfl
    have hadd : abin .add (.int .i64 (i : Nat)) (.int .i64 1) = some (.int .i64 ((i + 1 : Nat) : Int)) := add_nat (b := 1) (by omega)
    have hcl := cnt_le p i
    have hadd2 : abin .add (.int .i64 (cnt p i : Nat)) (.int .i64 1) = some (.int .i64 ((cnt p i + 1 : Nat) : Int)) := add_nat (b := 1) (by omega)
    refine DR.go rfl ?_
    simp -dsimp only [SZ, EZ, astep, aun, AVal.cells, seval, h8, hc]
    refine DR.ye rfl rfl ?_
    refine DR.go rfl ?_
    simp -dsimp only [SZ, EZ, astep, aun, AVal.cells, seval, ha, hl]
    refine (hop i hi8 H hI.gv).mono ?_
    rintro r H1 ⟨b1, rfl⟩
    obtain ⟨H2, hH2, g2, n2, f2⟩ := psh H1 (.cells 25 z25)
    have s3 := store_all (n := 5) g2 (new := TM.c5 (tf (p i))) rfl (TM.ones5 _) rfl
    obtain ⟨H3, hH3, g3, n3, f3⟩ := upd g2 (.cells 25 (TM.c5 (tf (p i))))
    have iy0 : ([(tf (p i)).agg, .int .i64 0] : List AVal)[0]? = some (tf (p i)).agg := rfl
    have iy1 : ([(tf (p i)).agg, .int .i64 0] : List AVal)[1]? = some (.int .i64 0) := rfl
    have b3 : Gro H H3 := ⟨by have := b1.1; omega, fun j hj => by have := b1.1; rw [f3 j (by omega), f2 j (by omega), b1.2 j hj]⟩
    have k3 := load_cell g3 (o := 0) (v := .int .i64 3) rfl
    have w3 : Grow H3 4 1 w i (bools p i) := hI.gw.frame fun j hj => b3.2 j (hI.gw.lt hj)
    obtain ⟨H4, hH4, g4, n4, f4⟩ := psh H3 (.cells 4 [.bool (p i)])
    have w4 : Grow H4 4 1 w i (bools p i) := w3.frame fun j hj => f4 j (w3.lt hj)
    obtain ⟨w5, H5, ha5, hg5, n5, f5, r5⟩ := w4.one (b := 1) g4 rfl rfl (by omega) (by omega) (by omega)
    rw [bools_succ] at hg5
    have N5 := hI.hn
    have L3 := b3.1
    have fr : ∀ j, j < N0 → H5.get j = H.get j := fun j hj => by
      rw [f5 j (by omega) (fun e => by have := hI.hw j e; omega), f4 j (by omega), b3.2 j (by omega)]
    have hI5 : Inv4 a b v i2 i3 sid N0 p H5 w5 (i + 1) := by
      refine ⟨(fr _ h2).trans hI.ga, (fr _ h3).trans hI.gb, ?_, (fr _ hs).trans hI.gs, hg5, fun j hj => by have := r5 j hj; omega, by omega⟩
      obtain ⟨id, cap', hv, hg⟩ := hI.gv
      exact ⟨id, cap', hv, (fr _ (hvN id cap' hv)).trans hg⟩
    have e00 : abin .neq (.int .i64 0) (.int .i64 0) = some (.bool false) := rfl
    have e33 : abin .neq (.int .i64 3) (.int .i64 3) = some (.bool false) := rfl
    simp -dsimp only [SZ, EZ, astep, aun, AVal.cells, seval, iy0, iy1, ← hz, ← hH2, s3, ← hH3]
    cases hp : p i with
    | true =>
      rw [hp] at g3 hH4
      have t3 := load_cell g3 (o := 3) (v := .str sTrue) rfl
      have t5 : aload H5 none (.ptr H1.next 3) = some (.str sTrue) := load_cell (by
        rw [f5 _ (by omega) (fun e => by have := b1.1; have := hI.gw.lt e; omega), f4 _ (by omega)]; exact g3) rfl
      have d1 : abin .neq (.str sTrue) (.str sTrue) = some (.bool false) := neq_str _
      have d2 : abin .eql (.str sTrue) (.str sTrue) = some (.bool true) := by kernel_rfl
      have hfl : afill [.bool false] [(0, 1, .bool true)] = some [.bool true] := rfl
      refine DR.go rfl ?_
      simp -dsimp only [SZ, EZ, astep, aun, AVal.cells, seval, e00, k3, e33, t3, d1]
      refine DR.ne rfl rfl ?_
      refine DR.go rfl ?_
      simp -dsimp only [SZ, EZ, astep, aun, AVal.cells, seval, t3, d2, Env.parts, hfl, ← hH4, ha5]
      by_cases hi3 : i < 3
      · have c3 : abin .lss (.int .i64 (i : Nat)) (.int .i64 3) = some (.bool true) := by simp [abin]; omega
        refine DR.go rfl ?_
        simp -dsimp only [SZ, EZ, astep, aun, AVal.cells, seval, c3, t5, d2]
        refine DR.ye rfl rfl ?_
        refine DR.go rfl ?_
        simp -dsimp only [SZ, EZ, astep, aun, AVal.cells, seval, hadd2]
        refine DR.go rfl ?_
        simp -dsimp only [SZ, EZ, astep, aun, AVal.cells, seval, hadd]
        refine DR.nm rfl ?_
        refine DR.inLoop ?_
        have hcn : cnt p i + 1 = cnt p (i + 1) := by simp only [cnt]; rw [if_pos ⟨hi3, hp⟩]
        rw [hcn]
        exact ih2 (i + 1) H5 w5 (by omega) hI5
      · have c3 : abin .lss (.int .i64 (i : Nat)) (.int .i64 3) = some (.bool false) := by simp [abin]; omega
        refine DR.go rfl ?_
        simp -dsimp only [SZ, EZ, astep, aun, AVal.cells, seval, c3]
        refine DR.ne rfl rfl ?_
        refine DR.go rfl ?_
        simp -dsimp only [SZ, EZ, astep, aun, AVal.cells, seval, hadd]
        refine DR.nm rfl ?_
        refine DR.inLoop ?_
        have hcn : cnt p i = cnt p (i + 1) := by simp only [cnt]; rw [if_neg (fun h => hi3 h.1), Nat.add_zero]
        rw [hcn]
        exact ih2 (i + 1) H5 w5 (by omega) hI5
    | false =>
      rw [hp] at g3 hH4
      have t3 := load_cell g3 (o := 3) (v := .str sFalse) rfl
      have t5 : aload H5 none (.ptr H1.next 3) = some (.str sFalse) := load_cell (by
        rw [f5 _ (by omega) (fun e => by have := b1.1; have := hI.gw.lt e; omega), f4 _ (by omega)]; exact g3) rfl
      have d1 : abin .neq (.str sFalse) (.str sTrue) = some (.bool true) := by kernel_rfl
      have d3 : abin .neq (.str sFalse) (.str sFalse) = some (.bool false) := neq_str _
      have d2 : abin .eql (.str sFalse) (.str sTrue) = some (.bool false) := by kernel_rfl
      have hfl : afill [.bool false] [(0, 1, .bool false)] = some [.bool false] := rfl
      refine DR.go rfl ?_
      simp -dsimp only [SZ, EZ, astep, aun, AVal.cells, seval, e00, k3, e33, t3, d1, d3]
      refine DR.ne rfl rfl ?_
      refine DR.go rfl ?_
      simp -dsimp only [SZ, EZ, astep, aun, AVal.cells, seval, t3, d2, Env.parts, hfl, ← hH4, ha5]
      have hcn : cnt p i = cnt p (i + 1) := by simp only [cnt]; rw [if_neg (fun h => by rw [hp] at h; exact nomatch h.2), Nat.add_zero]
      by_cases hi3 : i < 3
      · have c3 : abin .lss (.int .i64 (i : Nat)) (.int .i64 3) = some (.bool true) := by simp [abin]; omega
        refine DR.go rfl ?_
        simp -dsimp only [SZ, EZ, astep, aun, AVal.cells, seval, c3, t5, d2]
        refine DR.ne rfl rfl ?_
        refine DR.go rfl ?_
        simp -dsimp only [SZ, EZ, astep, aun, AVal.cells, seval, hadd]
        refine DR.nm rfl ?_
        refine DR.inLoop ?_
        rw [hcn]
        exact ih2 (i + 1) H5 w5 (by omega) hI5
      · have c3 : abin .lss (.int .i64 (i : Nat)) (.int .i64 3) = some (.bool false) := by simp [abin]; omega
        refine DR.go rfl ?_
        simp -dsimp only [SZ, EZ, astep, aun, AVal.cells, seval, c3]
        refine DR.ne rfl rfl ?_
        refine DR.go rfl ?_
        simp -dsimp only [SZ, EZ, astep, aun, AVal.cells, seval, hadd]
        refine DR.nm rfl ?_
        refine DR.inLoop ?_
        rw [hcn]
        exact ih2 (i + 1) H5 w5 (by omega) hI5
end
end Go.Am.Rl

/- The law BifOrders: it answers true. -/
namespace Go.Am.Rl
open Go.Proofs

theorem bx0 : (true ^^ (true == true)) = false := rfl
theorem bx1 : (true ^^ (true == false)) = true := rfl
theorem bx2 : (true ^^ (false == true)) = true := rfl
theorem bx3 : (true ^^ (false == false)) = false := rfl
theorem bx4 : (false ^^ (true == true)) = true := rfl
theorem bx5 : (false ^^ (true == false)) = false := rfl
theorem bx6 : (false ^^ (false == true)) = false := rfl
theorem bx7 : (false ^^ (false == false)) = true := rfl
theorem Called.cells {Y : TM → Prop} {E : Int → Prop} {r : AVal} (h : Called Y E r) : ∃ c b, r = .tup [.agg c, .bool b] ∧ c.length = 5 ∧ ones c = true ∧ (b = true → ∃ y : TM, y.ok ∧ Y y ∧ c = TM.c5 (norm y)) ∧ (b = false → ∃ e, E e) := by
  rcases h with ⟨y, oy, hy, rfl⟩ | ⟨he, rfl⟩
  · exact ⟨_, _, rfl, rfl, TM.ones5 _, fun _ => ⟨y, oy, hy, rfl⟩, fun h => nomatch h⟩
  · exact ⟨_, _, rfl, rfl, rfl, fun h => (nomatch h), fun _ => he⟩
theorem Called.sure {z : TM} {r : AVal} (h : Called (fun y => y = z) (fun _ => False) r) : r = .tup [.agg (TM.c5 (norm z)), .bool true] := by
  rcases h with ⟨y, oy, rfl, rfl⟩ | ⟨⟨e, he⟩, rfl⟩
  · rfl
  · exact he.elim
abbrev rest20 : ACode := .seq (.region false r4_20 [2, 3, 8, 12, 13]) (.seq (.region false r4_21 [2, 3, 8, 12, 13, 14, 15]) (.seq (.seq (.region false r4_22 [2, 3, 8, 12, 14, 152]) (.cond (.t 152) (.seq (.region false r4_23 [4]) .ret) .skip)) (.seq (.seq (.region false r4_24 [2, 3, 8, 12, 14, 155]) (.cond (.t 155) (.seq (.region false r4_25 [4]) .ret) .skip)) (.seq (.region false r4_26 [4]) .ret))))
theorem fill22 (a b : TM) : afill [AVal.int IntKind.i64 0, AVal.int IntKind.i64 0, AVal.flt FloatKind.f64 0, AVal.str ⟨#[]⟩, AVal.nils, AVal.int IntKind.i64 0, AVal.int IntKind.i64 0, AVal.flt FloatKind.f64 0, AVal.str ⟨#[]⟩, AVal.nils] [(0, 5, a.agg), (5, 5, b.agg)] = some (TM.flat [a, b]) := by
  rw [flat2]; rfl
theorem tail20 {a b lo hi : TM} (oa : a.ok) (ob : b.ok) (olo : lo.ok) (ohi : hi.ok) {q1 q2 : Bool}
    (hmin : DCall Tryz.prog 8 [.str ⟨#[109, 105, 110]⟩, (TM.of false [a, b]).row] AHeap.empty fun r H' => Called (fun y => y = lo) (fun _ => False) r ∧ H' = AHeap.empty)
    (hmax : DCall Tryz.prog 8 [.str ⟨#[109, 97, 120]⟩, (TM.of false [a, b]).row] AHeap.empty fun r H' => Called (fun y => y = hi) (fun _ => False) r ∧ H' = AHeap.empty)
    (hq : (q2 = true ∧ lo = b ∧ hi = a) ∨ (q2 = false ∧ lo = a ∧ (hi = b ∨ (hi = a ∧ q1 = true))))
    {H : AHeap} {i2 i3 wid : Nat} {L : List AVal} (ga : H.get i2 = some (.cells 25 (TM.c5 a))) (gb : H.get i3 = some (.cells 25 (TM.c5 b))) (gw : H.get wid = some (.cells 4 L)) (h1 : L[1]? = some (.bool q1)) (h2 : L[2]? = some (.bool q2)) :
    DR Tryz.prog (kof k4) 182 [.code .skip, .code rest20] [(2, .ptr i2 0), (3, .ptr i3 0), (8, .sl wid 0 8 none)] H fun T' H' => ∃ r, aresult H' T' [.tmp 4] = some r ∧ r = .bool true := by
  have hz : z25 = [.int .i64 0, .int .i64 0, .flt .f64 0, .str ⟨#[]⟩, .nils] := rfl
  have la := load_all (n := 5) ga rfl
  have lb := load_all (n := 5) gb rfl
  have na := AHeap.get_lt ga
  have nb := AHeap.get_lt gb
  have nw := AHeap.get_lt gw
  obtain ⟨H1, hH1, g1, n1, f1⟩ := psh H (.cells 25 (TM.flat [a, b]))
  refine DR.go rfl ?_
  simp -dsimp only [SZ, EZ, astep, aun, AVal.cells, seval, la, lb, Env.parts, fill22, ← hH1]
  refine (retire_flat (l := [a, b]) g1 (fun r h => Called.pure h) hmin).mono ?_
  rintro r H2 ⟨hr, he⟩
  obtain rfl := hr.sure
  have a2 : H2.get i2 = some (.cells 25 (TM.c5 a)) := by rw [he, AHeap.get_del, if_neg (by omega), f1 _ na]; exact ga
  have b2 : H2.get i3 = some (.cells 25 (TM.c5 b)) := by rw [he, AHeap.get_del, if_neg (by omega), f1 _ nb]; exact gb
  have w2 : H2.get wid = some (.cells 4 L) := by rw [he, AHeap.get_del, if_neg (by omega), f1 _ nw]; exact gw
  have na2 := AHeap.get_lt a2
  have nb2 := AHeap.get_lt b2
  have nw2 := AHeap.get_lt w2
  clear he
  obtain ⟨H3, hH3, g3, n3, f3⟩ := psh H2 (.cells 25 z25)
  have s3 := store_all (n := 5) g3 (new := TM.c5 (norm lo)) rfl (TM.ones5 _) rfl
  obtain ⟨H4, hH4, g4, n4, f4⟩ := upd g3 (.cells 25 (TM.c5 (norm lo)))
  have a4 : H4.get i2 = some (.cells 25 (TM.c5 a)) := by rw [f4 _ (by omega), f3 _ na2]; exact a2
  have b4 : H4.get i3 = some (.cells 25 (TM.c5 b)) := by rw [f4 _ (by omega), f3 _ nb2]; exact b2
  have w4 : H4.get wid = some (.cells 4 L) := by rw [f4 _ (by omega), f3 _ nw2]; exact w2
  have la4 := load_all (n := 5) a4 rfl
  have lb4 := load_all (n := 5) b4 rfl
  have iy0 : ([.agg (TM.c5 (norm lo)), .bool true] : List AVal)[0]? = some (.agg (TM.c5 (norm lo))) := rfl
  have iy1 : ([.agg (TM.c5 (norm lo)), .bool true] : List AVal)[1]? = some (.bool true) := rfl
  simp -dsimp only [SZ, EZ, astep, aun, AVal.cells, seval, iy0, iy1, ← hz, ← hH3, s3, ← hH4]
  obtain ⟨H5, hH5, g5, n5, f5⟩ := psh H4 (.cells 25 (TM.flat [a, b]))
  refine DR.go rfl ?_
  simp -dsimp only [SZ, EZ, astep, aun, AVal.cells, seval, la4, lb4, Env.parts, fill22, ← hH5]
  refine (retire_flat (l := [a, b]) g5 (fun r h => Called.pure h) hmax).mono ?_
  rintro r H6 ⟨hr, he⟩
  obtain rfl := hr.sure
  have a6 : H6.get i2 = some (.cells 25 (TM.c5 a)) := by rw [he, AHeap.get_del, if_neg (by omega), f5 _ (by omega)]; exact a4
  have b6 : H6.get i3 = some (.cells 25 (TM.c5 b)) := by rw [he, AHeap.get_del, if_neg (by omega), f5 _ (by omega)]; exact b4
  have w6 : H6.get wid = some (.cells 4 L) := by rw [he, AHeap.get_del, if_neg (by omega), f5 _ (by omega)]; exact w4
  have l6 : H6.get H2.next = some (.cells 25 (TM.c5 (norm lo))) := by rw [he, AHeap.get_del, if_neg (by omega), f5 _ (by omega)]; exact g4
  have na6 := AHeap.get_lt a6
  have nb6 := AHeap.get_lt b6
  have nw6 := AHeap.get_lt w6
  have nl6 := AHeap.get_lt l6
  clear he
  obtain ⟨H7, hH7, g7, n7, f7⟩ := psh H6 (.cells 25 z25)
  have s7 := store_all (n := 5) g7 (new := TM.c5 (norm hi)) rfl (TM.ones5 _) rfl
  obtain ⟨H8, hH8, g8, n8, f8⟩ := upd g7 (.cells 25 (TM.c5 (norm hi)))
  have a8 : H8.get i2 = some (.cells 25 (TM.c5 a)) := by rw [f8 _ (by omega), f7 _ na6]; exact a6
  have b8 : H8.get i3 = some (.cells 25 (TM.c5 b)) := by rw [f8 _ (by omega), f7 _ nb6]; exact b6
  have w8 : H8.get wid = some (.cells 4 L) := by rw [f8 _ (by omega), f7 _ nw6]; exact w6
  have l8 : H8.get H2.next = some (.cells 25 (TM.c5 (norm lo))) := by rw [f8 _ (by omega), f7 _ nl6]; exact l6
  have la8 := load_all (n := 5) a8 rfl
  have lb8 := load_all (n := 5) b8 rfl
  have ll8 := load_all (n := 5) l8 rfl
  have lh8 := load_all (n := 5) g8 rfl
  have jy0 : ([.agg (TM.c5 (norm hi)), .bool true] : List AVal)[0]? = some (.agg (TM.c5 (norm hi))) := rfl
  have jy1 : ([.agg (TM.c5 (norm hi)), .bool true] : List AVal)[1]? = some (.bool true) := rfl
  simp -dsimp only [SZ, EZ, astep, aun, AVal.cells, seval, jy0, jy1, ← hz, ← hH7, s7, ← hH8]
  have x1 : aiaddr H8 1 (.sl wid 0 8 none) (.int .i64 1) = some (.ptr wid 1) := rfl
  have x2 : aiaddr H8 1 (.sl wid 0 8 none) (.int .i64 2) = some (.ptr wid 2) := rfl
  have y1 := load_cell w8 (o := 1) h1
  have y2 := load_cell w8 (o := 2) h2
  refine DR.go rfl ?_
  simp -dsimp only [SZ, EZ, astep, aun, AVal.cells, seval, Bool.not_true]
  refine DR.ne rfl rfl ?_
  refine DR.go rfl ?_
  simp -dsimp only [SZ, EZ, astep, aun, AVal.cells, seval, x2, y2]
  have twin : ∀ z : TM, z.ok → DCall Tryz.prog 9 [(norm z).agg, z.agg] H8 fun r H' => r = .bool true ∧ H' = H8 := fun z oz => g11 (norm z) z (norm_ok z oz) oz (norm_norm z) H8
  rcases hq with ⟨rfl, rfl, rfl⟩ | ⟨rfl, rfl, hq⟩
  · refine DR.ye rfl rfl ?_
    refine DR.go rfl ?_
    simp -dsimp only [SZ, EZ, astep, aun, AVal.cells, seval, ll8, lb8]
    refine (twin _ olo).mono ?_
    rintro r H' ⟨rfl, he⟩
    obtain rfl := he.symm
    simp -dsimp only [SZ, EZ, astep, aun, AVal.cells, seval, lh8, la8]
    refine (twin _ ohi).mono ?_
    rintro r H' ⟨rfl, he⟩
    obtain rfl := he.symm
    simp -dsimp only [SZ, EZ, astep, aun, AVal.cells, seval]
    refine DR.nm rfl ?_
    exact DR.ret ⟨_, by simp [aresult, ares, Env.get] <;> rfl, rfl⟩
  · refine DR.ne rfl rfl ?_
    refine DR.go rfl ?_
    simp -dsimp only [SZ, EZ, astep, aun, AVal.cells, seval, ll8, la8]
    refine (twin _ olo).mono ?_
    rintro r H' ⟨rfl, he⟩
    obtain rfl := he.symm
    simp -dsimp only [SZ, EZ, astep, aun, AVal.cells, seval, lh8, lb8]
    rcases hq with rfl | ⟨rfl, rfl⟩
    · refine (twin _ ohi).mono ?_
      rintro r H' ⟨rfl, he⟩
      obtain rfl := he.symm
      simp -dsimp only [SZ, EZ, astep, aun, AVal.cells, seval]
      refine DR.nm rfl ?_
      exact DR.ret ⟨_, by simp [aresult, ares, Env.get] <;> rfl, rfl⟩
    · refine (g9t (norm hi) (norm_ok _ ohi) b ob H8).mono ?_
      rintro r H' ⟨⟨z, rfl⟩, he⟩
      obtain rfl := he.symm
      cases z with
      | true =>
        simp -dsimp only [SZ, EZ, astep, aun, AVal.cells, seval]
        refine DR.nm rfl ?_
        exact DR.ret ⟨_, by simp [aresult, ares, Env.get] <;> rfl, rfl⟩
      | false =>
        simp -dsimp only [SZ, EZ, astep, aun, AVal.cells, seval, x1, y1, lh8, la8]
        refine (twin _ ohi).mono ?_
        rintro r H' ⟨rfl, he⟩
        obtain rfl := he.symm
        simp -dsimp only [SZ, EZ, astep, aun, AVal.cells, seval]
        refine DR.nm rfl ?_
        exact DR.ret ⟨_, by simp [aresult, ares, Env.get] <;> rfl, rfl⟩
/-- What the eight signs tell: below; equal and identical; equal; above. -/
def eight : Nat → List Bool
  | 0 => [true, false, false, true, false, true, false, true]
  | 1 => [false, true, false, true, true, false, true, false]
  | 2 => [false, true, false, true, true, false, false, true]
  | _ => [false, false, true, false, true, true, false, true]
theorem part18 {H : AHeap} {i2 i3 wid : Nat} {j : Nat} {Q : Env → AHeap → Prop} (gw : H.get wid = some (.cells 4 ((eight j).map AVal.bool)))
    (h : DR Tryz.prog (kof k4) 182 [.code .skip, .code rest20] [(2, .ptr i2 0), (3, .ptr i3 0), (8, .sl wid 0 8 none)] H Q) :
    DR Tryz.prog (kof k4) 182 [.code (.seq (.seq (.region true r4_18 [2, 3, 8, 132]) (.cond (.t 132) (.seq (.region false r4_19 [4]) .ret) .skip)) rest20)] [(2, .ptr i2 0), (3, .ptr i3 0), (6, .int .i64 1), (8, .sl wid 0 8 none)] H Q := by
  have x0 : ∀ G : AHeap, aiaddr G 1 (.sl wid 0 8 none) (.int .i64 0) = some (.ptr wid 0) := fun G => rfl
  have x1 : ∀ G : AHeap, aiaddr G 1 (.sl wid 0 8 none) (.int .i64 1) = some (.ptr wid 1) := fun G => rfl
  have x2 : ∀ G : AHeap, aiaddr G 1 (.sl wid 0 8 none) (.int .i64 2) = some (.ptr wid 2) := fun G => rfl
  have x3 : ∀ G : AHeap, aiaddr G 1 (.sl wid 0 8 none) (.int .i64 3) = some (.ptr wid 3) := fun G => rfl
  have x4 : ∀ G : AHeap, aiaddr G 1 (.sl wid 0 8 none) (.int .i64 4) = some (.ptr wid 4) := fun G => rfl
  have x5 : ∀ G : AHeap, aiaddr G 1 (.sl wid 0 8 none) (.int .i64 5) = some (.ptr wid 5) := fun G => rfl
  have x6 : ∀ G : AHeap, aiaddr G 1 (.sl wid 0 8 none) (.int .i64 6) = some (.ptr wid 6) := fun G => rfl
  have x7 : ∀ G : AHeap, aiaddr G 1 (.sl wid 0 8 none) (.int .i64 7) = some (.ptr wid 7) := fun G => rfl
  have e1 : abin .neq (.int .i64 1) (.int .i64 1) = some (.bool false) := rfl
  match j with
  | 0 =>
    have y0 := load_cell gw (o := 0) (v := .bool true) rfl
    have y1 := load_cell gw (o := 1) (v := .bool false) rfl
    have y2 := load_cell gw (o := 2) (v := .bool false) rfl
    have y3 := load_cell gw (o := 3) (v := .bool true) rfl
    have y4 := load_cell gw (o := 4) (v := .bool false) rfl
    have y5 := load_cell gw (o := 5) (v := .bool true) rfl
    have y6 := load_cell gw (o := 6) (v := .bool false) rfl
    have y7 := load_cell gw (o := 7) (v := .bool true) rfl
    refine DR.nm rfl ?_
    refine DR.draw (by kernel_rfl) d4_18 ?_
    simp -dsimp only [m4_18, SZ, EZ, astep, aun, AVal.cells, seval, DS_nil, DS_cons, seesAll, staysAll, abit, List.getD_cons_zero, List.getD_cons_succ, AOp.quiet, AOp.reads, true_and, and_true, decide_true, decide_false, and_self, e1, x0, x1, x2, x3, x4, x5, x6, x7, y0, y1, y2, y3, y4, y5, y6, y7, bx0, bx1, bx2, bx3, bx4, bx5, bx6, bx7, Bool.not_true, Bool.not_false]
    refine DR.ne rfl rfl ?_
    refine DR.only [2, 3, 8] ?_
    exact h
  | 1 =>
    have y0 := load_cell gw (o := 0) (v := .bool false) rfl
    have y1 := load_cell gw (o := 1) (v := .bool true) rfl
    have y2 := load_cell gw (o := 2) (v := .bool false) rfl
    have y3 := load_cell gw (o := 3) (v := .bool true) rfl
    have y4 := load_cell gw (o := 4) (v := .bool true) rfl
    have y5 := load_cell gw (o := 5) (v := .bool false) rfl
    have y6 := load_cell gw (o := 6) (v := .bool true) rfl
    have y7 := load_cell gw (o := 7) (v := .bool false) rfl
    refine DR.nm rfl ?_
    refine DR.draw (by kernel_rfl) d4_18 ?_
    simp -dsimp only [m4_18, SZ, EZ, astep, aun, AVal.cells, seval, DS_nil, DS_cons, seesAll, staysAll, abit, List.getD_cons_zero, List.getD_cons_succ, AOp.quiet, AOp.reads, true_and, and_true, decide_true, decide_false, and_self, e1, x0, x1, x2, x3, x4, x5, x6, x7, y0, y1, y2, y3, y4, y5, y6, y7, bx0, bx1, bx2, bx3, bx4, bx5, bx6, bx7, Bool.not_true, Bool.not_false]
    refine DR.ne rfl rfl ?_
    refine DR.only [2, 3, 8] ?_
    exact h
  | 2 =>
    have y0 := load_cell gw (o := 0) (v := .bool false) rfl
    have y1 := load_cell gw (o := 1) (v := .bool true) rfl
    have y2 := load_cell gw (o := 2) (v := .bool false) rfl
    have y3 := load_cell gw (o := 3) (v := .bool true) rfl
    have y4 := load_cell gw (o := 4) (v := .bool true) rfl
    have y5 := load_cell gw (o := 5) (v := .bool false) rfl
    have y6 := load_cell gw (o := 6) (v := .bool false) rfl
    have y7 := load_cell gw (o := 7) (v := .bool true) rfl
    refine DR.nm rfl ?_
    refine DR.draw (by kernel_rfl) d4_18 ?_
    simp -dsimp only [m4_18, SZ, EZ, astep, aun, AVal.cells, seval, DS_nil, DS_cons, seesAll, staysAll, abit, List.getD_cons_zero, List.getD_cons_succ, AOp.quiet, AOp.reads, true_and, and_true, decide_true, decide_false, and_self, e1, x0, x1, x2, x3, x4, x5, x6, x7, y0, y1, y2, y3, y4, y5, y6, y7, bx0, bx1, bx2, bx3, bx4, bx5, bx6, bx7, Bool.not_true, Bool.not_false]
    refine DR.ne rfl rfl ?_
    refine DR.only [2, 3, 8] ?_
    exact h
  | j0 + 3 =>
    have y0 := load_cell gw (o := 0) (v := .bool false) rfl
    have y1 := load_cell gw (o := 1) (v := .bool false) rfl
    have y2 := load_cell gw (o := 2) (v := .bool true) rfl
    have y3 := load_cell gw (o := 3) (v := .bool false) rfl
    have y4 := load_cell gw (o := 4) (v := .bool true) rfl
    have y5 := load_cell gw (o := 5) (v := .bool true) rfl
    have y6 := load_cell gw (o := 6) (v := .bool false) rfl
    have y7 := load_cell gw (o := 7) (v := .bool true) rfl
    refine DR.nm rfl ?_
    refine DR.draw (by kernel_rfl) d4_18 ?_
    simp -dsimp only [m4_18, SZ, EZ, astep, aun, AVal.cells, seval, DS_nil, DS_cons, seesAll, staysAll, abit, List.getD_cons_zero, List.getD_cons_succ, AOp.quiet, AOp.reads, true_and, and_true, decide_true, decide_false, and_self, e1, x0, x1, x2, x3, x4, x5, x6, x7, y0, y1, y2, y3, y4, y5, y6, y7, bx0, bx1, bx2, bx3, bx4, bx5, bx6, bx7, Bool.not_true, Bool.not_false]
    refine DR.ne rfl rfl ?_
    refine DR.only [2, 3, 8] ?_
    exact h
theorem pv_eight {a b : TM} (hs : samev a b = true → ord a b = 0) : ∃ j, bools (pv a b) 8 = (eight j).map AVal.bool ∧ cnt (pv a b) 8 = 1 ∧ ((j = 0 ∧ ord a b < 0) ∨ ((j = 1 ∨ j = 2) ∧ ord a b = 0) ∨ (j = 3 ∧ 0 < ord a b)) := by
  have red : ∀ (q0 q1 q2 q3 q4 q5 q6 q7 : Bool), pv a b 0 = q0 → pv a b 1 = q1 → pv a b 2 = q2 → pv a b 3 = q3 → pv a b 4 = q4 → pv a b 5 = q5 → pv a b 6 = q6 → pv a b 7 = q7 → bools (pv a b) 8 = [q0, q1, q2, q3, q4, q5, q6, q7].map AVal.bool ∧ cnt (pv a b) 8 = (if q0 = true then 1 else 0) + (if q1 = true then 1 else 0) + (if q2 = true then 1 else 0) := by
    rintro q0 q1 q2 q3 q4 q5 q6 q7 rfl rfl rfl rfl rfl rfl rfl rfl
    refine ⟨rfl, ?_⟩
    simp [cnt]
  have six : ∀ z, samev a b = z → pv a b 6 = z ∧ pv a b 7 = !z := by
    rintro z rfl
    show (samev a b == true) = _ ∧ (samev a b == false) = _
    cases samev a b <;> exact ⟨rfl, rfl⟩
  have T : ∀ {p : Prop} [Decidable p], p → decide p = true := fun h => decide_eq_true h
  have F : ∀ {p : Prop} [Decidable p], ¬ p → decide p = false := fun h => decide_eq_false h
  by_cases h0 : ord a b = 0
  · cases hz : samev a b with
    | true =>
      obtain ⟨s6, s7⟩ := six _ hz
      obtain ⟨r1, r2⟩ := red false true false true true false true false (F (by omega)) (T (by omega)) (F (by omega)) (T (by omega)) (T (by omega)) (F (by omega)) s6 s7
      exact ⟨1, r1, r2, .inr (.inl ⟨.inl rfl, h0⟩)⟩
    | false =>
      obtain ⟨s6, s7⟩ := six _ hz
      obtain ⟨r1, r2⟩ := red false true false true true false false true (F (by omega)) (T (by omega)) (F (by omega)) (T (by omega)) (T (by omega)) (F (by omega)) s6 s7
      exact ⟨2, r1, r2, .inr (.inl ⟨.inr rfl, h0⟩)⟩
  · have hz : samev a b = false := by
      cases h : samev a b with
      | false => rfl
      | true => exact absurd (hs h) h0
    obtain ⟨s6, s7⟩ := six _ hz
    by_cases h1 : ord a b < 0
    · obtain ⟨r1, r2⟩ := red true false false true false true false true (T (by omega)) (F (by omega)) (F (by omega)) (T (by omega)) (F (by omega)) (T (by omega)) s6 s7
      exact ⟨0, r1, r2, .inl ⟨rfl, h1⟩⟩
    · obtain ⟨r1, r2⟩ := red false false true false true true false true (F (by omega)) (F (by omega)) (T (by omega)) (F (by omega)) (T (by omega)) (T (by omega)) s6 s7
      exact ⟨3, r1, r2, .inr (.inr ⟨rfl, by omega⟩)⟩
theorem g4 {a b : TM} (oa : a.ok) (ob : b.ok) : DCall Tryz.prog 4 [a.agg, b.agg] AHeap.empty fun r H' => r = .bool true := by
  have ok2 : (TM.of false [a, b]).ok := TM.of_ok ⟨oa, ob, trivial⟩ (by show 2 ≤ 2 ^ 41; decide) (fun h => nomatch h)
  obtain ⟨H1, hH1, g1, n1, f1⟩ := psh AHeap.empty (.cells 25 (TM.c5 a))
  obtain ⟨H2, hH2, g2, n2, f2⟩ := psh H1 (.cells 25 (TM.c5 b))
  have a2 := (f2 _ (by omega)).trans g1
  have la2 := load_all (n := 5) a2 rfl
  have lb2 := load_all (n := 5) g2 rfl
  obtain ⟨H3, hH3, g3, n3, f3⟩ := psh H2 (.cells 25 (TM.flat [a, b]))
  have a3 := (f3 _ (by omega)).trans a2
  have b3 := (f3 _ (by omega)).trans g2
  have la3 := load_all (n := 5) a3 rfl
  have lb3 := load_all (n := 5) b3 rfl
  refine DCall.of_body (fn := Tryz.f4) (by kernel_rfl) c4 (by kernel_rfl) (by simp [f4]) ?_
  unfold f4
  simp only []
  refine DR.go rfl ?_
  simp -dsimp only [SZ, EZ, astep, aun, AVal.cells, seval, ← hH1, ← hH2]
  refine DR.go rfl ?_
  simp -dsimp only [SZ, EZ, astep, aun, AVal.cells, seval]
  refine (g7 _).mono ?_
  rintro x H0 ⟨rfl, he0⟩
  simp -dsimp only [SZ, EZ, astep, aun, AVal.cells, seval]
  obtain rfl := he0.symm
  refine DR.ne rfl rfl ?_
  refine DR.go rfl ?_
  simp -dsimp only [SZ, EZ, astep, aun, AVal.cells, seval, la2, lb2, Env.parts, fill22, ← hH3]
  refine (g8xr (l := [a, b]) ok2 g3).mono ?_
  rintro r H' ⟨⟨z, rfl, hb⟩, he⟩
  obtain rfl := he.symm
  cases z with
  | false =>
    simp -dsimp only [SZ, EZ, astep, aun, AVal.cells, seval, Bool.not_false]
    refine DR.ye rfl rfl ?_
    refine DR.go rfl ?_
    simp -dsimp only [SZ, EZ, astep, aun, AVal.cells, seval]
    refine DR.nm rfl ?_
    exact DR.ret ⟨_, by simp [aresult, ares, Env.get] <;> rfl, rfl⟩
  | true => ?_
  have ra : right a := hb rfl a (by simp)
  have rb : right b := hb rfl b (by simp)
  simp -dsimp only [SZ, EZ, astep, aun, AVal.cells, seval, Bool.not_true]
  refine DR.ne rfl rfl ?_
  obtain ⟨H4, hH4, g4', n4, f4⟩ := psh H3 (.cells 25 (TM.flat [a, b]))
  obtain ⟨H5, hH5, g5, n5, f5⟩ := psh H4 (.cells 9 signs8)
  have hfl : afill [.str ⟨#[]⟩, .str ⟨#[]⟩, .str ⟨#[]⟩, .str ⟨#[]⟩, .str ⟨#[]⟩, .str ⟨#[]⟩, .str ⟨#[]⟩, .str ⟨#[]⟩] [(0, 1, .str ⟨#[60]⟩), (1, 1, .str ⟨#[61, 61]⟩), (2, 1, .str ⟨#[62]⟩), (3, 1, .str ⟨#[61, 60]⟩), (4, 1, .str ⟨#[62, 61]⟩), (5, 1, .str ⟨#[47, 61]⟩), (6, 1, .str ⟨#[61, 58, 61]⟩), (7, 1, .str ⟨#[61, 47, 61]⟩)] = some signs8 := rfl
  refine DR.go rfl ?_
  simp -dsimp only [SZ, EZ, astep, aun, AVal.cells, seval, la3, lb3, Env.parts, fill22, ← hH4]
  refine DR.go rfl ?_
  simp -dsimp only [SZ, EZ, astep, aun, AVal.cells, seval]
  refine DR.go rfl ?_
  simp -dsimp only [SZ, EZ, astep, aun, AVal.cells, seval, Env.parts, hfl, ← hH5]
  refine DR.go rfl ?_
  simp -dsimp only [SZ, EZ, astep, aun, AVal.cells, seval]
  refine DR.go rfl ?_
  simp -dsimp only [SZ, EZ, astep, aun, AVal.cells, seval]
  refine DR.nm rfl ?_
  refine DR.loop ?_
  obtain ⟨j, hj, hc, hcase⟩ := pv_eight (a := a) (b := b) (same_ord a b)
  have sw := ord_swap a b ra.2.2 rb.2.2
  have a5 : H5.get AHeap.empty.next = some (.cells 25 (TM.c5 a)) := by rw [f5 _ (by omega), f4 _ (by omega)]; exact a3
  have b5 : H5.get H1.next = some (.cells 25 (TM.c5 b)) := by rw [f5 _ (by omega), f4 _ (by omega)]; exact b3
  have v5 : SL2 H5 (.sl H3.next 0 2 (some 2)) a b := ⟨_, _, rfl, (f5 _ (by omega)).trans g4'⟩
  refine loop4s (N0 := H5.next) (p := pv a b) (fun i hi H hv => c_op oa ob ra rb hi H hv) (by omega) (by omega) (by omega) (fun id cap e => by injection e with e1; omega) rfl (fun H6 w hI => ?_) 8 0 H5 .nils (by omega) ⟨a5, b5, v5, g5, Grow.nils _ _ _, (fun j h => nomatch h), Nat.le_refl _⟩
  obtain ⟨_, ⟨_, h⟩ | ⟨wid, rfl, gw⟩⟩ := hI.gw
  · exact absurd h (by decide)
  rw [hj] at gw
  rw [hc]
  refine part18 gw ?_
  rcases hcase with ⟨rfl, h⟩ | ⟨hj2, h⟩ | ⟨rfl, h⟩
  · exact tail20 (lo := a) (hi := b) oa ob oa ob (((c_min oa ob ra rb AHeap.empty)).mono fun r H' hr => by rw [if_neg (by omega)] at hr; exact hr) ((c_max oa ob ra rb AHeap.empty).mono fun r H' hr => by rw [if_pos h] at hr; exact hr) (.inr ⟨rfl, rfl, .inl rfl⟩) hI.ga hI.gb gw rfl rfl
  · have e1 : ((eight j).map AVal.bool)[1]? = some (.bool true) ∧ ((eight j).map AVal.bool)[2]? = some (.bool false) := by rcases hj2 with rfl | rfl <;> exact ⟨rfl, rfl⟩
    exact tail20 (lo := a) (hi := a) oa ob oa oa (((c_min oa ob ra rb AHeap.empty)).mono fun r H' hr => by rw [if_neg (by omega)] at hr; exact hr) ((c_max oa ob ra rb AHeap.empty).mono fun r H' hr => by rw [if_neg (by omega)] at hr; exact hr) (.inr ⟨rfl, rfl, .inr ⟨rfl, rfl⟩⟩) hI.ga hI.gb gw e1.1 e1.2
  · exact tail20 (lo := b) (hi := a) oa ob ob oa (((c_min oa ob ra rb AHeap.empty)).mono fun r H' hr => by rw [if_pos (by omega)] at hr; exact hr) ((c_max oa ob ra rb AHeap.empty).mono fun r H' hr => by rw [if_neg (by omega)] at hr; exact hr) (.inl ⟨rfl, rfl, rfl⟩) hI.ga hI.gb gw rfl rfl
end Go.Am.Rl
