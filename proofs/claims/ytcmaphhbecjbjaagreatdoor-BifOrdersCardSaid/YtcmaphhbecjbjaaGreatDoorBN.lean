/- Parts: B18, B19, B20, B21, B24m. -/
import Derived.Test.YtcmaphhbecjbjaaGreatDoorBM
import Derived.Test.YtcmaphhbecjbjaaGreatDoorAmS
set_option linter.unusedVariables false
set_option linter.unusedSimpArgs false
set_option maxRecDepth 20000
/- What tells a term, or gives up: told; arguments of a kind; places. -/
namespace Go.Am.Rl
open Go.Proofs

/-- Blocks that are added to. -/
def Gro (H H' : AHeap) : Prop := H.next ≤ H'.next ∧ ∀ j, j < H.next → H'.get j = H.get j
theorem Gro.refl (H : AHeap) : Gro H H := ⟨Nat.le_refl _, fun _ _ => rfl⟩
theorem Gro.trans {H H1 H2 : AHeap} (h : Gro H H1) (k : Gro H1 H2) : Gro H H2 := ⟨Nat.le_trans h.1 k.1, fun j hj => (k.2 j (Nat.lt_of_lt_of_le hj h.1)).trans (h.2 j hj)⟩
theorem Gro.get {H H' : AHeap} (h : Gro H H') {i : Nat} {b : ABlk} (hi : H.get i = some b) : H'.get i = some b := (h.2 i (AHeap.get_lt hi)).trans hi
abbrev z25 : List AVal := [.int .i64 0, .int .i64 0, .flt .f64 0, .str ⟨#[]⟩, .nils]
/-- A panic with an error's number. -/
abbrev err (e : Int) : AVal := .ifc 31 (.int .i64 e)

theorem u49r {H : AHeap} {b2 b3 : Nat} : DCallD Tryz.prog 58 [.ptr b2 0, .ptr b3 0] .ret H fun m' H' => m' = .ret ∧ H' = H := by
  refine DCallD.of_recov (fn := Tryz.f58) (by kernel_rfl) c58 (by kernel_rfl) (d := 5) rfl (by simp [f58]) ?_
  simp -dsimp only [SZ, EZ, astep, aun, AVal.cells, seval, AEnd.told]
  refine DR.go rfl ?_
  simp -dsimp only [SZ, EZ, astep, aun, AVal.cells, seval, anil]
  refine DR.ye rfl rfl ?_
  refine DR.go rfl ?_
  simp -dsimp only [SZ, EZ, astep, aun, AVal.cells, seval]
  refine DR.nm rfl ?_
  exact DR.done ⟨.tup [], rfl, rfl⟩
theorem u49p {H : AHeap} {b2 b3 : Nat} {e x : Int} {c2 : List AVal} (h2 : H.get b2 = some (.cells 25 c2)) (l2 : c2.length = 5) (h3 : H.get b3 = some (.cells 31 [.int .i64 x])) (hne : b2 ≠ b3) :
    DCallD Tryz.prog 58 [.ptr b2 0, .ptr b3 0] (.pan (err e)) H fun m' H' => m' = .ret ∧ H'.get b2 = some (.cells 25 z25) ∧ H'.get b3 = some (.cells 31 [.int .i64 e]) ∧ H.next ≤ H'.next ∧ ∀ j, j < H.next → j ≠ b2 → j ≠ b3 → H'.get j = H.get j := by
  refine DCallD.of_recov (fn := Tryz.f58) (by kernel_rfl) c58 (by kernel_rfl) (d := 5) rfl (by simp [f58]) ?_
  simp -dsimp only [SZ, EZ, astep, aun, AVal.cells, seval, AEnd.told, err]
  refine DR.go rfl ?_
  simp -dsimp only [SZ, EZ, astep, aun, AVal.cells, seval, anil]
  refine DR.ne rfl rfl ?_
  have ix0 : ([.int .i64 e, .bool true] : List AVal)[0]? = some (.int .i64 e) := rfl
  have ix1 : ([.int .i64 e, .bool true] : List AVal)[1]? = some (.bool true) := rfl
  refine DR.go rfl ?_
  simp -dsimp only [SZ, EZ, astep, aun, AVal.cells, seval, atassert, ix0, ix1]
  refine DR.ye rfl rfl ?_
  refine DR.go rfl ?_
  simp -dsimp only [SZ, EZ, astep, aun, AVal.cells, seval]
  have s3 := store_all (n := 5) h2 (new := z25) (by rw [l2]; rfl) rfl l2
  obtain ⟨H3, hH3, g3, n3, f3⟩ := upd h2 (.cells 25 z25)
  have h33 : H3.get b3 = some (.cells 31 [.int .i64 x]) := (f3 b3 hne.symm).trans h3
  have s4 : astore H3 1 (.ptr b3 0) (.int .i64 e) = some (H3.set b3 (.cells 31 [.int .i64 e])) := astore_one h33 (o := 0) (by simp) rfl
  obtain ⟨H4, hH4, g4, n4, f4⟩ := upd h33 (.cells 31 [.int .i64 e])
  refine DR.go rfl ?_
  simp -dsimp only [SZ, EZ, astep, aun, AVal.cells, seval, Env.parts, afill, s3, ← hH3, s4, ← hH4]
  refine DR.nm rfl ?_
  exact DR.done ⟨.tup [], rfl, (f4 b2 hne).trans g3, g4, by omega, fun j hj h2 h3 => by rw [f4 j h3, f3 j h2]⟩

theorem g22 {g : FuncId} {caps : List AVal} {H : AHeap} {Y : TM → Prop} {E : Int → Prop}
    (h : ∀ H2, Gro H H2 → DCallX Tryz.prog g caps H2 fun o H3 => Gro H2 H3 ∧ ((∃ y : TM, y.ok ∧ Y y ∧ o = .ret y.agg) ∨ ∃ e, E e ∧ o = .pan (err e))) :
    DCallX Tryz.prog 26 [.fn (.func g) [] caps] H fun o H' => Gro H H' ∧ ((∃ y : TM, y.ok ∧ Y y ∧ o = .ret (.tup [(norm y).agg, .int .i64 0])) ∨ ∃ e, E e ∧ o = .ret (.tup [.agg z25, .int .i64 e])) := by
  obtain ⟨H1, hH1, g1, n1, f1⟩ := psh H (.cells 25 z25)
  obtain ⟨H2, hH2, g2, n2, f2⟩ := psh H1 (.cells 31 [.int .i64 0])
  have t1 := (f2 _ (by rw [n1]; omega)).trans g1
  have b2 : Gro H H2 := ⟨by rw [n2, n1]; omega, fun j hj => by rw [f2 j (by omega), f1 j hj]⟩
  have hz : z25 = [.int .i64 0, .int .i64 0, .flt .f64 0, .str ⟨#[]⟩, .nils] := rfl
  refine DCallX.of_body (fn := Tryz.f26) (by kernel_rfl) c26 (by kernel_rfl) (by simp [f26]) ?_
  unfold f26
  simp only []
  refine DRX.go rfl ?_
  simp -dsimp only [XZ, SZ, EZ, astep, aun, AVal.cells, seval, ← hz, ← hH1, ← hH2]
  refine DRX.go rfl ?_
  simp -dsimp only [XZ, SZ, EZ, astep, aun, AVal.cells, seval]
  refine DRX.go rfl ?_
  simp -dsimp only [XZ, SZ, EZ, astep, aun, AVal.cells, seval, List.append_nil, List.nil_append]
  refine (h H2 b2).mono ?_
  rintro o H3 ⟨b3, ⟨y, ok, hy, rfl⟩ | ⟨e, he, rfl⟩⟩
  · have t3 := b3.get t1
    have t3' := b3.get g2
    have s1 := store_all (n := 5) t3 (new := TM.c5 (norm y)) rfl (TM.ones5 _) rfl
    obtain ⟨H4, hH4, g4, n4, f4⟩ := upd t3 (.cells 25 (TM.c5 (norm y)))
    have t4 : H4.get H1.next = some (.cells 31 [.int .i64 0]) := (f4 _ (by omega)).trans t3'
    have s2 : astore H4 1 (.ptr H1.next 0) (.int .i64 0) = some (H4.set H1.next (.cells 31 [.int .i64 0])) := astore_one t4 (o := 0) (by simp) rfl
    obtain ⟨H5, hH5, g5, n5, f5⟩ := upd t4 (.cells 31 [.int .i64 0])
    have lr2 := load_all (n := 5) ((f5 H.next (by omega)).trans g4) rfl
    have lr3 := load_cell g5 (o := 0) (v := .int .i64 0) rfl
    have b5 : Gro H H5 := ⟨by have := b2.1; have := b3.1; omega, fun j hj => by rw [f5 j (by omega), f4 j (by omega), b3.2 j (by have := b2.1; omega), b2.2 j hj]⟩
    simp -dsimp only [XZ, SZ, EZ, astep, aun, AVal.cells, seval]
    refine DCall.monoX (g50 y ok H3) ?_
    rintro r H' ⟨rfl, hh⟩
    obtain rfl := hh.symm
    simp -dsimp only [XZ, SZ, EZ, astep, aun, AVal.cells, seval, s1, ← hH4, s2, ← hH5]
    refine DRX.nm rfl ?_
    refine DRX.ret (DCallD.mono u49r ?_)
    rintro m H9 ⟨rfl, rfl⟩
    exact ⟨.tup [(norm y).agg, .int .i64 0], by simp [aresult, ares, Env.get, lr2, lr3], b5, .inl ⟨y, ok, hy, rfl⟩⟩
  · have t3 := b3.get t1
    have t3' := b3.get g2
    refine DCallD.mono (u49p t3 rfl t3' (by omega)) ?_
    rintro m H7 ⟨rfl, g72, g73, n7, f7⟩
    have lr2 := load_all (n := 5) g72 rfl
    have lr3 := load_cell g73 (o := 0) (v := .int .i64 e) rfl
    refine ⟨.tup [.agg z25, .int .i64 e], by simp [aresult, ares, Env.get, lr2, lr3], ⟨by have := b2.1; have := b3.1; omega, fun j hj => ?_⟩, .inr ⟨e, he, rfl⟩⟩
    rw [f7 j (by have := b2.1; have := b3.1; omega) (by omega) (by omega), b3.2 j (by have := b2.1; omega), b2.2 j hj]
end Go.Am.Rl

/- Arguments of a kind, places among them; 'element'. -/
namespace Go.Am.Rl
open Go.Proofs

/-- A builtin's call: its arguments, and what tells how many a fun takes. -/
abbrev callC (u : TM) : List AVal := [u.row, .fn (.func 16) [] []]
theorem g48 {H : AHeap} : DCallX Tryz.prog 57 [] H fun o H' => Gro H H' ∧ o = .pan (err 13) := by
  obtain ⟨H1, hH1, g1, n1, f1⟩ := psh H (.cells 25 z25)
  have hz : z25 = [.int .i64 0, .int .i64 0, .flt .f64 0, .str ⟨#[]⟩, .nils] := rfl
  refine DCallX.of_body (fn := Tryz.f57) (by kernel_rfl) c57 (by kernel_rfl) (by simp [f57]) ?_
  unfold f57
  simp only []
  refine DRX.go rfl ?_
  simp -dsimp only [XZ, SZ, EZ, astep, aun, AVal.cells, seval, ← hz, ← hH1]
  refine DRX.go rfl ?_
  simp -dsimp only [XZ, SZ, EZ, astep, aun, AVal.cells, seval]
  exact ⟨⟨by omega, f1⟩, rfl⟩
theorem g47 {u x : TM} {i : Nat} {cid : Nat} {kd : Int} {H : AHeap} (ok : u.ok) (hx : u.l[i]? = some x) (hk : x.k = kd) (g : H.get cid = some (.cells 53 (callC u))) :
    DCall Tryz.prog 56 [.ptr cid 0, .int .i64 (i : Nat), .int .i64 kd] H fun r H' => Gro H H' ∧ r = x.agg := by
  obtain ⟨H1, hH1, g1, n1, f1⟩ := psh H (.cells 25 z25)
  have hz : z25 = [.int .i64 0, .int .i64 0, .flt .f64 0, .str ⟨#[]⟩, .nils] := rfl
  have t1 := (f1 _ (AHeap.get_lt g)).trans g
  have l0 := load_cell t1 (o := 0) (v := u.row) rfl
  have ra := TM.row_at ok hx H1
  have la := TM.load x (TM.flat (u.l.drop (i + 1))) H1
  have lk : aload H1 none (.rop (x.cells ++ TM.flat (u.l.drop (i + 1)))) = some (.int .i64 x.k) := by rw [TM.cells_eq]; rfl
  have hc : abin .neq (.int .i64 x.k) (.int .i64 kd) = some (.bool false) := by rw [hk]; exact neq_int _ _
  have s1 := store_all (n := 5) g1 (new := TM.c5 x) rfl (TM.ones5 _) rfl
  obtain ⟨H2, hH2, g2, n2, f2⟩ := upd g1 (.cells 25 (TM.c5 x))
  have l2 := load_all (n := 5) g2 rfl
  refine DCall.of_body (fn := Tryz.f56) (by kernel_rfl) c56 (by kernel_rfl) (by simp [f56]) ?_
  unfold f56
  simp only []
  refine DR.go rfl ?_
  simp -dsimp only [SZ, EZ, astep, aun, AVal.cells, seval, ← hz, ← hH1]
  refine DR.go rfl ?_
  simp -dsimp only [SZ, EZ, astep, aun, AVal.cells, seval, l0, ra, lk, hc]
  refine DR.ne rfl rfl ?_
  refine DR.go rfl ?_
  simp -dsimp only [SZ, EZ, astep, aun, AVal.cells, seval, l0, ra, la, s1, ← hH2]
  refine DR.nm rfl ?_
  exact DR.ret ⟨x.agg, by simp [aresult, ares, Env.get, l2], ⟨by omega, fun j hj => by rw [f2 j (by omega), f1 j hj]⟩, rfl⟩
theorem g110 {u x : TM} {cid m : Nat} {H : AHeap} (ok : u.ok) (hx : u.l[0]? = some x) (hk : x.k = 1) (hm : m < 4611686018427387904) (g : H.get cid = some (.cells 53 (callC u))) :
    DCallX Tryz.prog 120 [.ptr cid 0, .int .i64 (m : Nat)] H fun o H' => Gro H H' ∧ (((1 ≤ x.n ∧ x.n ≤ (m : Int)) ∧ ∃ j : Nat, (j : Int) + 1 = x.n ∧ o = .ret (.int .i64 (j : Nat))) ∨ (¬ (1 ≤ x.n ∧ x.n ≤ (m : Int)) ∧ o = .pan (err 13))) := by
  have hfld : afld 1 none x.agg = some (.int .i64 x.n) := rfl
  refine DCallX.of_body (fn := Tryz.f120) (by kernel_rfl) c120 (by kernel_rfl) (by simp [f120]) ?_
  unfold f120
  simp only []
  refine DRX.go rfl ?_
  simp -dsimp only [XZ, SZ, EZ, astep, aun, AVal.cells, seval]
  refine DRX.go rfl ?_
  simp -dsimp only [XZ, SZ, EZ, astep, aun, AVal.cells, seval]
  refine DCall.monoX (g47 (i := 0) ok hx hk g) ?_
  rintro r H1 ⟨b1, rfl⟩
  simp -dsimp only [XZ, SZ, EZ, astep, aun, AVal.cells, seval, hfld]
  by_cases h1 : 1 ≤ x.n
  · have c1 : abin .lss (.int .i64 x.n) (.int .i64 1) = some (.bool false) := by simp [abin]; omega
    by_cases h2 : x.n ≤ (m : Int)
    · have c2 : abin .gtr (.int .i64 x.n) (.int .i64 (m : Nat)) = some (.bool false) := by simp [abin]; omega
      obtain ⟨j, hj⟩ : ∃ j : Nat, (j : Int) + 1 = x.n := ⟨(x.n - 1).toNat, by omega⟩
      have c3 : abin .sub (.int .i64 x.n) (.int .i64 1) = some (.int .i64 (j : Nat)) := by
        show some (AVal.int .i64 (IntKind.i64.wrap (x.n - 1))) = _
        rw [show x.n - 1 = (j : Int) by omega, wrap64 (by omega)]
      refine DRX.go rfl ?_
      simp -dsimp only [XZ, SZ, EZ, astep, aun, AVal.cells, seval, c1, c2]
      refine DRX.ne rfl rfl ?_
      refine DRX.go rfl ?_
      simp -dsimp only [XZ, SZ, EZ, astep, aun, AVal.cells, seval, c3]
      refine DRX.nm rfl ?_
      exact DRX.ret ⟨.int .i64 (j : Nat), rfl, b1, .inl ⟨⟨h1, h2⟩, j, hj, rfl⟩⟩
    · have c2 : abin .gtr (.int .i64 x.n) (.int .i64 (m : Nat)) = some (.bool true) := by simp [abin]; omega
      refine DRX.go rfl ?_
      simp -dsimp only [XZ, SZ, EZ, astep, aun, AVal.cells, seval, c1, c2]
      refine DRX.ye rfl rfl ?_
      refine DRX.go rfl ?_
      simp -dsimp only [XZ, SZ, EZ, astep, aun, AVal.cells, seval]
      refine g48.mono ?_
      rintro o H2 ⟨b2, rfl⟩
      exact ⟨b1.trans b2, .inr ⟨fun h => h2 h.2, rfl⟩⟩
  · have c1 : abin .lss (.int .i64 x.n) (.int .i64 1) = some (.bool true) := by simp [abin]; omega
    refine DRX.go rfl ?_
    simp -dsimp only [XZ, SZ, EZ, astep, aun, AVal.cells, seval, c1]
    refine DRX.ye rfl rfl ?_
    refine DRX.go rfl ?_
    simp -dsimp only [XZ, SZ, EZ, astep, aun, AVal.cells, seval]
    refine g48.mono ?_
    rintro o H2 ⟨b2, rfl⟩
    exact ⟨b1.trans b2, .inr ⟨fun h => h1 h.1, rfl⟩⟩
end Go.Am.Rl

/- A builtin called by its name: what it tells, or the error that it gives up with; 'element'. -/
namespace Go.Am.Rl
open Go.Proofs

/-- It tells such a term, or gives up with such an error. -/
def Tells (H : AHeap) (Y : TM → Prop) (E : Int → Prop) (o : AOut) (H' : AHeap) : Prop := Gro H H' ∧ ((∃ y : TM, y.ok ∧ Y y ∧ o = .ret y.agg) ∨ ∃ e, E e ∧ o = .pan (err e))

theorem ptr_lt {H : AHeap} {i : Nat} {b : ABlk} (h : H.get i = some b) : i < H.next := AHeap.get_lt h
theorem g77 {u x t : TM} {cid : Nat} {H : AHeap} (ok : u.ok) (hx : u.l[0]? = some x) (hk : x.k = 1) (ht : u.l[1]? = some t) (hkt : t.k = 7) (g : H.get cid = some (.cells 53 (callC u))) :
    DCallX Tryz.prog 90 [.ptr cid 0] H (Tells H (fun y => ∃ j : Nat, (j : Int) + 1 = x.n ∧ t.l[j]? = some y) (fun e => e = 13 ∧ ¬ (1 ≤ x.n ∧ x.n ≤ (t.l.length : Int)))) := by
  have okt := TM.ok_at ok ht
  have hle := TM.len_le okt
  obtain ⟨H1, hH1, g1, n1, f1⟩ := psh H (.cells 25 z25)
  have hz : z25 = [.int .i64 0, .int .i64 0, .flt .f64 0, .str ⟨#[]⟩, .nils] := rfl
  have t1 := (f1 _ (AHeap.get_lt g)).trans g
  have b1 : Gro H H1 := ⟨by omega, f1⟩
  have hfld : afld 4 none t.agg = some t.row := rfl
  refine DCallX.of_body (fn := Tryz.f90) (by kernel_rfl) c90 (by kernel_rfl) (by simp [f90]) ?_
  unfold f90
  simp only []
  refine DRX.go rfl ?_
  simp -dsimp only [XZ, SZ, EZ, astep, aun, AVal.cells, seval, ← hz, ← hH1]
  refine DRX.go rfl ?_
  simp -dsimp only [XZ, SZ, EZ, astep, aun, AVal.cells, seval]
  refine DCall.monoX (g47 (i := 1) ok ht hkt t1) ?_
  rintro r H2 ⟨b2, rfl⟩
  have hl := TM.lenT okt H2
  simp -dsimp only [XZ, SZ, EZ, astep, aun, AVal.cells, seval, hfld]
  refine DRX.go rfl ?_
  simp -dsimp only [XZ, SZ, EZ, astep, aun, AVal.cells, seval, hl]
  refine (g110 (m := t.l.length) ok hx hk (by omega) (b2.get t1)).mono ?_
  rintro o H3 ⟨b3, ⟨⟨h1, h2⟩, j, hj, rfl⟩ | ⟨h1, rfl⟩⟩
  · have hlt : j < t.l.length := by omega
    have hy : t.l[j]? = some t.l[j] := List.getElem?_eq_getElem hlt
    have ra := TM.row_at okt hy H3
    have la := TM.load t.l[j] (TM.flat (t.l.drop (j + 1))) H3
    have t3 := b3.get (b2.get g1)
    have s1 := store_all (n := 5) t3 (new := TM.c5 t.l[j]) rfl (TM.ones5 _) rfl
    obtain ⟨H4, hH4, g4, n4, f4⟩ := upd t3 (.cells 25 (TM.c5 t.l[j]))
    have l4 := load_all (n := 5) g4 rfl
    simp -dsimp only [XZ, SZ, EZ, astep, aun, AVal.cells, seval, ra, la, s1, ← hH4]
    refine DRX.nm rfl ?_
    exact DRX.ret ⟨t.l[j].agg, by simp [aresult, ares, Env.get, l4], ⟨by have := b1.1; have := b2.1; have := b3.1; omega, fun i hi => by rw [f4 i (by omega), ((b1.trans b2).trans b3).2 i hi]⟩, .inl ⟨t.l[j], TM.ok_at okt hy, ⟨j, hj, hy⟩, rfl⟩⟩
  · exact ⟨(b1.trans b2).trans b3, .inr ⟨13, ⟨rfl, h1⟩, rfl⟩⟩

section
variable {u : TM} {f : FuncId} {Y : TM → Prop} {E : Int → Prop}
theorem g25 {H : AHeap} {b8 b4 b5 : Nat} {n : Int} {gd : Bool} (h8 : H.get b8 = some (.cells 59 [.int .i64 n, .bool gd, .fn (.func f) [] []])) (h4 : H.get b4 = some (.cells 23 [u.row])) (h5 : H.get b5 = some (.cells 42 [.fn (.func 16) [] []]))
    (hf : ∀ H cid, H.get cid = some (.cells 53 (callC u)) → DCallX Tryz.prog f [.ptr cid 0] H (Tells H Y E)) : DCallX Tryz.prog 29 [.ptr b8 0, .ptr b4 0, .ptr b5 0] H (Tells H Y E) := by
  obtain ⟨H1, hH1, g1, n1, f1⟩ := psh H (.cells 25 z25)
  have hz : z25 = [.int .i64 0, .int .i64 0, .flt .f64 0, .str ⟨#[]⟩, .nils] := rfl
  have l8 := load_cell ((f1 _ (AHeap.get_lt h8)).trans h8) (o := 2) (v := .fn (.func f) [] []) rfl
  have l4 := load_cell ((f1 _ (AHeap.get_lt h4)).trans h4) (o := 0) (v := u.row) rfl
  have l5 := load_cell ((f1 _ (AHeap.get_lt h5)).trans h5) (o := 0) (v := .fn (.func 16) [] []) rfl
  obtain ⟨H2, hH2, g2, n2, f2⟩ := psh H1 (.cells 53 (callC u))
  have hfl : afill [.nils, .nilf] [(0, 1, u.row), (1, 1, .fn (.func 16) [] [])] = some (callC u) := by
    cases u with
    | mk k n f s nl l => cases nl <;> rfl
  have b2 : Gro H H2 := ⟨by omega, fun j hj => by rw [f2 j (by omega), f1 j hj]⟩
  refine DCallX.of_body (fn := Tryz.f29) (by kernel_rfl) c29 (by kernel_rfl) (by simp [f29]) ?_
  unfold f29
  simp only []
  refine DRX.go rfl ?_
  simp -dsimp only [XZ, SZ, EZ, astep, aun, AVal.cells, seval, ← hz, ← hH1]
  refine DRX.go rfl ?_
  simp -dsimp only [XZ, SZ, EZ, astep, aun, seval, l8, l4, l5, Env.parts, hfl, show (AVal.agg (callC u)).cells = callC u from rfl, ← hH2, List.append_nil, List.nil_append]
  refine (hf H2 H1.next g2).mono ?_
  rintro o H3 ⟨b3, ⟨y, oy, hy, rfl⟩ | ⟨e, he, rfl⟩⟩
  · have t3 := b3.get ((f2 _ (by omega)).trans g1)
    have s1 := store_all (n := 5) t3 (new := TM.c5 y) rfl (TM.ones5 _) rfl
    obtain ⟨H4, hH4, g4, n4, f4⟩ := upd t3 (.cells 25 (TM.c5 y))
    have l6 := load_all (n := 5) g4 rfl
    simp -dsimp only [XZ, SZ, EZ, astep, aun, AVal.cells, seval, s1, ← hH4]
    refine DRX.nm rfl ?_
    exact DRX.ret ⟨y.agg, by simp [aresult, ares, Env.get, l6], ⟨by have := b2.1; have := b3.1; omega, fun i hi => by rw [f4 i (by omega), (b2.trans b3).2 i hi]⟩, .inl ⟨y, oy, hy, rfl⟩⟩
  · exact ⟨b2.trans b3, .inr ⟨e, he, rfl⟩⟩
theorem g15 {nm : ByteArray} {H : AHeap} {n : Int} {gd : Bool} (ok : u.ok)
    (hfind : ∀ H, DCall Tryz.prog 28 [.str nm, .int .i64 (u.l.length : Nat)] H fun r H' => r = .tup [.agg [.int .i64 n, .bool gd, .fn (.func f) [] []], .bool true] ∧ H' = H)
    (hf : ∀ H cid, H.get cid = some (.cells 53 (callC u)) → DCallX Tryz.prog f [.ptr cid 0] H (Tells H Y E)) :
    DCallX Tryz.prog 15 [.str nm, u.row, .fn (.func 16) [] []] H fun o H' => Gro H H' ∧ ((∃ y : TM, y.ok ∧ Y y ∧ o = .ret (.tup [(norm y).agg, .int .i64 0])) ∨ ∃ e, E e ∧ o = .ret (.tup [.agg z25, .int .i64 e])) := by
  have hcl : u.row.cells = [u.row] := by
    cases u with
    | mk k n f s nl l => cases nl <;> rfl
  obtain ⟨H1, hH1, g1, n1, f1⟩ := psh H (.cells 23 [u.row])
  obtain ⟨H2, hH2, g2, n2, f2⟩ := psh H1 (.cells 42 [.fn (.func 16) [] []])
  obtain ⟨H3, hH3, g3, n3, f3⟩ := psh H2 (.cells 25 z25)
  obtain ⟨H4, hH4, g4, n4, f4⟩ := psh H3 (.cells 59 [.int .i64 0, .bool false, .nilf])
  have hz : z25 = [.int .i64 0, .int .i64 0, .flt .f64 0, .str ⟨#[]⟩, .nils] := rfl
  have l1 := load_cell ((f3 _ (by omega)).trans ((f2 _ (by omega)).trans g1)) (o := 0) (v := u.row) rfl
  have hl := TM.lenT ok H3
  have s4 := store_all (n := 3) g4 (new := [.int .i64 n, .bool gd, .fn (.func f) [] []]) rfl rfl rfl
  obtain ⟨H5, hH5, g5, n5, f5⟩ := upd g4 (.cells 59 [.int .i64 n, .bool gd, .fn (.func f) [] []])
  have k1 : H5.get H.next = some (.cells 23 [u.row]) := by rw [f5 _ (by omega), f4 _ (by omega), f3 _ (by omega), f2 _ (by omega)]; exact g1
  have k2 : H5.get H1.next = some (.cells 42 [.fn (.func 16) [] []]) := by rw [f5 _ (by omega), f4 _ (by omega), f3 _ (by omega)]; exact g2
  have k3 : H5.get H2.next = some (.cells 25 z25) := by rw [f5 _ (by omega), f4 _ (by omega)]; exact g3
  refine DCallX.of_body (fn := Tryz.f15) (by kernel_rfl) c15 (by kernel_rfl) (by simp [f15]) ?_
  unfold f15
  simp only []
  refine DRX.go rfl ?_
  simp -dsimp only [XZ, SZ, EZ, astep, aun, seval, hcl, show (AVal.fn (.func 16) [] []).cells = [.fn (.func 16) [] []] from rfl, ← hz, ← hH1, ← hH2, ← hH3]
  refine DRX.go rfl ?_
  simp -dsimp only [XZ, SZ, EZ, astep, aun, AVal.cells, seval, ← hH3, l1, hl]
  refine DCall.monoX (hfind H3) ?_
  rintro r H' ⟨rfl, he⟩
  obtain rfl := he.symm
  have ix0 : ([.agg [.int .i64 n, .bool gd, .fn (.func f) [] []], .bool true] : List AVal)[0]? = some (.agg [.int .i64 n, .bool gd, .fn (.func f) [] []]) := rfl
  have ix1 : ([.agg [.int .i64 n, .bool gd, .fn (.func f) [] []], .bool true] : List AVal)[1]? = some (.bool true) := rfl
  simp -dsimp only [XZ, SZ, EZ, astep, aun, AVal.cells, seval, ix0, ix1, ← hH4, s4, ← hH5]
  refine DRX.go rfl ?_
  simp -dsimp only [XZ, SZ, EZ, astep, aun, AVal.cells, seval]
  refine DRX.ne rfl rfl ?_
  refine DRX.go rfl ?_
  simp -dsimp only [XZ, SZ, EZ, astep, aun, AVal.cells, seval]
  refine (g22 (fun H6 b6 => g25 (b6.get g5) (b6.get k1) (b6.get k2) hf)).mono ?_
  rintro o H7 ⟨b7, ho7⟩
  have b07 : ∀ H8 : AHeap, H8.next = H7.next → (∀ j, j ≠ H2.next → H8.get j = H7.get j) → Gro H H8 := fun H8 hn hf => ⟨by have := b7.1; omega, fun j hj => by rw [hf j (by omega), b7.2 j (by omega), f5 j (by omega), f4 j (by omega), f3 j (by omega), f2 j (by omega), f1 j hj]⟩
  rcases ho7 with ⟨y, oy, hy, rfl⟩ | ⟨e, he, rfl⟩
  · have s7 := store_all (n := 5) (b7.get k3) (new := TM.c5 (norm y)) rfl (TM.ones5 _) rfl
    obtain ⟨H8, hH8, g8, n8, f8⟩ := upd (b7.get k3) (.cells 25 (TM.c5 (norm y)))
    have l8 := load_all (n := 5) g8 rfl
    have iy0 : ([(norm y).agg, .int .i64 0] : List AVal)[0]? = some (norm y).agg := rfl
    have iy1 : ([(norm y).agg, .int .i64 0] : List AVal)[1]? = some (.int .i64 0) := rfl
    simp -dsimp only [XZ, SZ, EZ, astep, aun, AVal.cells, seval, iy0, iy1, s7, ← hH8]
    refine DRX.nm rfl ?_
    exact DRX.ret ⟨.tup [(norm y).agg, .int .i64 0], by simp [aresult, ares, Env.get, l8], b07 H8 n8 f8, .inl ⟨y, oy, hy, rfl⟩⟩
  · have s7 := store_all (n := 5) (b7.get k3) (new := z25) rfl rfl rfl
    obtain ⟨H8, hH8, g8, n8, f8⟩ := upd (b7.get k3) (.cells 25 z25)
    have l8 := load_all (n := 5) g8 rfl
    have iy0 : ([.agg z25, .int .i64 e] : List AVal)[0]? = some (.agg z25) := rfl
    have iy1 : ([.agg z25, .int .i64 e] : List AVal)[1]? = some (.int .i64 e) := rfl
    simp -dsimp only [XZ, SZ, EZ, astep, aun, AVal.cells, seval, iy0, iy1, s7, ← hH8]
    refine DRX.nm rfl ?_
    exact DRX.ret ⟨.tup [.agg z25, .int .i64 e], by simp [aresult, ares, Env.get, l8], b07 H8 n8 f8, .inr ⟨e, he, rfl⟩⟩
end
end Go.Am.Rl

/- The law's 'call' of a builtin by its name, ahead of any blocks; 'element'. -/
namespace Go.Am.Rl
open Go.Proofs

theorem DCallX.plain {P : Program} {f : FuncId} {xs : List AVal} {H : AHeap} {Q : AVal → AHeap → Prop} (h : DCallX P f xs H fun o H' => ∃ v, o = .ret v ∧ Q v H') : DCall P f xs H Q := by
  obtain ⟨o, H', ⟨v, rfl, hq⟩, d⟩ := h
  exact ⟨v, H', hq, d.det⟩
/-- What 'call' tells. -/
def Called (Y : TM → Prop) (E : Int → Prop) (r : AVal) : Prop := (∃ y : TM, y.ok ∧ Y y ∧ r = .tup [(norm y).agg, .bool true]) ∨ ((∃ e, E e) ∧ r = .tup [.agg z25, .bool false])

section
variable {u : TM} {f : FuncId} {Y : TM → Prop} {E : Int → Prop}
theorem g9x {nm : ByteArray} {H : AHeap} {n : Int} {gd : Bool} (ok : u.ok)
    (hfind : ∀ H, DCall Tryz.prog 28 [.str nm, .int .i64 (u.l.length : Nat)] H fun r H' => r = .tup [.agg [.int .i64 n, .bool gd, .fn (.func f) [] []], .bool true] ∧ H' = H)
    (hf : ∀ H cid, H.get cid = some (.cells 53 (callC u)) → DCallX Tryz.prog f [.ptr cid 0] H (Tells H Y E)) (hE : ∀ e, E e → e ≠ 0) :
    DCallX Tryz.prog 8 [.str nm, u.row] H fun o H' => ∃ v, o = .ret v ∧ Called Y E v := by
  obtain ⟨H1, hH1, g1, n1, f1⟩ := psh H (.cells 25 z25)
  have hz : z25 = [.int .i64 0, .int .i64 0, .flt .f64 0, .str ⟨#[]⟩, .nils] := rfl
  refine DCallX.of_body (fn := Tryz.f8) (by kernel_rfl) c8 (by kernel_rfl) (by simp [f8]) ?_
  unfold f8
  simp only []
  refine DRX.go rfl ?_
  simp -dsimp only [XZ, SZ, EZ, astep, aun, AVal.cells, seval, ← hz, ← hH1]
  refine DRX.go rfl ?_
  simp -dsimp only [XZ, SZ, EZ, astep, aun, AVal.cells, seval]
  refine (g15 ok hfind hf).mono ?_
  rintro o H2 ⟨b2, ho⟩
  obtain ⟨H3, hH3, g3, n3, f3⟩ := psh H2 (.cells 25 z25)
  have t1 := b2.get g1
  have fin : ∀ c : List AVal, c.length = 5 → ones c = true → ∃ H4 H5, astore H3 5 (.ptr H2.next 0) (.agg c) = some H4 ∧ aload H4 (some 5) (.ptr H2.next 0) = some (.agg c) ∧ astore H4 5 (.ptr H.next 0) (.agg c) = some H5 ∧ aload H5 (some 5) (.ptr H.next 0) = some (.agg c) := by
    intro c hc ho
    obtain ⟨H4, hH4, g4, n4, f4⟩ := upd g3 (.cells 25 c)
    have t4 : H4.get H.next = some (.cells 25 z25) := by rw [f4 _ (by have := AHeap.get_lt t1; omega), f3 _ (AHeap.get_lt t1)]; exact t1
    obtain ⟨H5, hH5, g5, n5, f5⟩ := upd t4 (.cells 25 c)
    exact ⟨H4, H5, by rw [hH4]; exact store_all (n := 5) (new := c) g3 hc ho rfl, load_all (n := 5) g4 hc, by rw [hH5]; exact store_all (n := 5) (new := c) t4 hc ho rfl, load_all (n := 5) g5 hc⟩
  rcases ho with ⟨y, oy, hy, rfl⟩ | ⟨e, he, rfl⟩
  · obtain ⟨H4, H5, s1, l1, s2, l2⟩ := fin (TM.c5 (norm y)) rfl (TM.ones5 _)
    have iy0 : ([(norm y).agg, .int .i64 0] : List AVal)[0]? = some (norm y).agg := rfl
    have iy1 : ([(norm y).agg, .int .i64 0] : List AVal)[1]? = some (.int .i64 0) := rfl
    simp -dsimp only [XZ, SZ, EZ, astep, aun, AVal.cells, seval, iy0, iy1, ← hz, ← hH3, s1]
    refine DRX.go rfl ?_
    simp -dsimp only [XZ, SZ, EZ, astep, aun, AVal.cells, seval, l1, s2, abin]
    refine DRX.nm rfl ?_
    exact DRX.ret ⟨.tup [(norm y).agg, .bool true], by simp [aresult, ares, Env.get, l2], _, rfl, .inl ⟨y, oy, hy, rfl⟩⟩
  · obtain ⟨H4, H5, s1, l1, s2, l2⟩ := fin z25 rfl rfl
    have iy0 : ([.agg z25, .int .i64 e] : List AVal)[0]? = some (.agg z25) := rfl
    have iy1 : ([.agg z25, .int .i64 e] : List AVal)[1]? = some (.int .i64 e) := rfl
    have ce : abin .eql (.int .i64 e) (.int .i64 0) = some (.bool false) := by
      show some (AVal.bool (e == 0)) = _
      rw [beq_false_of_ne (hE e he)]
    simp -dsimp only [XZ, SZ, EZ, astep, aun, AVal.cells, seval, iy0, iy1, ← hz, ← hH3, s1]
    refine DRX.go rfl ?_
    simp -dsimp only [XZ, SZ, EZ, astep, aun, AVal.cells, seval, l1, s2, ce]
    refine DRX.nm rfl ?_
    exact DRX.ret ⟨.tup [.agg z25, .bool false], by simp [aresult, ares, Env.get, l2], _, rfl, .inr ⟨⟨e, he⟩, rfl⟩⟩
theorem g9c {nm : ByteArray} {n : Int} {gd : Bool} (ok : u.ok)
    (hfind : ∀ H, DCall Tryz.prog 28 [.str nm, .int .i64 (u.l.length : Nat)] H fun r H' => r = .tup [.agg [.int .i64 n, .bool gd, .fn (.func f) [] []], .bool true] ∧ H' = H)
    (hf : ∀ H cid, H.get cid = some (.cells 53 (callC u)) → DCallX Tryz.prog f [.ptr cid 0] H (Tells H Y E)) (hE : ∀ e, E e → e ≠ 0) (H : AHeap) :
    DCall Tryz.prog 8 [.str nm, u.row] H fun r H' => Called Y E r ∧ H' = H := by
  have hp : AVal.pures [.str nm, u.row] = true := by
    have := TM.purer (u := u)
    simp only [AVal.pures, Bool.and_true] at this ⊢
    rw [this]; rfl
  refine DCall.closed (sz := szs) hp (Q := fun r _ => Called Y E r) (DCallX.plain (Q := fun r _ => Called Y E r) (g9x ok hfind hf hE)) ?_ H
  rintro r H1 hr
  refine ⟨SizeOf.sizeOf r + 1, r, freeze_pure _ _ (by omega) ?_, hr⟩
  rcases hr with ⟨y, _, _, rfl⟩ | ⟨_, rfl⟩
  · have := TM.pures1 (norm y)
    simp only [AVal.pures, AVal.pure, Bool.and_true] at this ⊢
    exact this
  · rfl
end
theorem find_element : xclosed tab cmp90 100000 100 szs 28 [.str ⟨#[101, 108, 101, 109, 101, 110, 116]⟩, .int .i64 2] = some (.tup [.agg [.int .i64 2, .bool true, .fn (.func 90) [] []], .bool true]) := by kernel_rfl
theorem find_setelement : xclosed tab cmp90 100000 100 szs 28 [.str ⟨#[115, 101, 116, 101, 108, 101, 109, 101, 110, 116]⟩, .int .i64 3] = some (.tup [.agg [.int .i64 3, .bool false, .fn (.func 126) [] []], .bool true]) := by kernel_rfl
/-- 'element' of a tuple. -/
theorem c_element {x t : TM} (ox : x.ok) (ot : t.ok) (hk : x.k = 1) (hkt : t.k = 7) (H : AHeap) :
    DCall Tryz.prog 8 [.str ⟨#[101, 108, 101, 109, 101, 110, 116]⟩, (TM.of false [x, t]).row] H fun r H' => Called (fun y => ∃ j : Nat, (j : Int) + 1 = x.n ∧ t.l[j]? = some y) (fun e => e = 13 ∧ ¬ (1 ≤ x.n ∧ x.n ≤ (t.l.length : Int))) r ∧ H' = H := by
  have ok : (TM.of false [x, t]).ok := TM.of_ok ⟨ox, ot, trivial⟩ (by show 2 ≤ 2 ^ 41; decide) (fun h => nomatch h)
  exact g9c ok (fun H => (xclosed_sound mixed tab_ok cmp90_ok find_element H).dcall) (fun H cid g => g77 ok rfl hk rfl hkt g) (fun e he => by omega) H
end Go.Am.Rl

/- The same term again; rows in blocks, frozen. -/
namespace Go.Am.Rl
open Go.Proofs

theorem TM.ok_oks {t : TM} (h : t.ok) : TM.oks t.l := by
  cases t with
  | mk k n f s nl l => exact h.2.2.2.2.2.2
theorem norm_ok : ∀ t : TM, t.ok → (norm t).ok := by
  refine TM.all fun t ih ok => ?_
  have hm : ∀ l : List TM, (∀ x ∈ l, (norm x).ok) → TM.oks (norms l) := by
    intro l
    induction l with
    | nil => intro _; trivial
    | cons a r ihl => intro h; exact ⟨h a (List.mem_cons_self ..), ihl fun x hx => h x (List.mem_cons_of_mem _ hx)⟩
  cases t with
  | mk k n f s nl l =>
    refine ⟨ok.1, ok.2.1, ok.2.2.1, ok.2.2.2.1, by rw [norms_map, List.length_map]; exact ok.2.2.2.2.1, fun h => ?_, hm l fun x hx => ih x hx (TM.oks_mem ok.2.2.2.2.2.2 x hx)⟩
    rw [List.isEmpty_iff] at h
    rw [h]; rfl
theorem norm_norm : ∀ t : TM, norm (norm t) = norm t := by
  refine TM.all fun t ih => ?_
  cases t with
  | mk k n f s nl l =>
    have hm : norms (norms l) = norms l := by
      rw [norms_map, norms_map, List.map_map]
      exact List.map_congr_left fun x hx => ih x hx
    show TM.mk k n f s (norms l).isEmpty (norms (norms l)) = TM.mk k n f s l.isEmpty (norms l)
    rw [hm]
    have : (norms l).isEmpty = l.isEmpty := by rw [norms_map]; cases l <;> rfl
    rw [this]
theorem norm_l (t : TM) : (norm t).l = t.l.map norm := by cases t; exact norms_map _
theorem flat_freeze (l : List TM) {H : AHeap} {id : Nat} {cap : Option Nat} (g : H.get id = some (.cells 25 (TM.flat l))) : freezeL (freeze szs H (SizeOf.sizeOf (TM.flat l) + 1)) [.sl id 0 l.length cap] = some [.ros (TM.flat l) l.length] := by
  have h1 : freezeL (freeze szs H (SizeOf.sizeOf (TM.flat l))) (TM.flat l) = some (TM.flat l) := freezeL_all fun a ha => freeze_pure _ a (List.sizeOf_lt_of_mem ha) (pures_mem (TM.pures l) a ha)
  have h2 : ((TM.flat l).drop 0).take (l.length * szs 25) = TM.flat l := by
    show ((TM.flat l).drop 0).take (l.length * 5) = TM.flat l
    rw [List.drop_zero, List.take_of_length_le (by rw [TM.flat_length]; omega)]
  simp only [freezeL, freeze, g, h2, h1]
/-- A call handed a row of terms in a block, that is not asked for again. -/
theorem retire_flat {f : FuncId} {nm : ByteArray} {l : List TM} {H : AHeap} {id : Nat} {cap : Option Nat} {K : AVal → Prop} (g : H.get id = some (.cells 25 (TM.flat l))) (hr : ∀ r, K r → r.pure = true) (h : DCall Tryz.prog f [.str nm, (TM.of false l).row] AHeap.empty fun r H1 => K r ∧ H1 = AHeap.empty) :
    DCall Tryz.prog f [.str nm, .sl id 0 l.length cap] H fun r H' => K r ∧ H' = H.del id :=
  DCall.retire (n := l.length) (args' := [.str nm, (TM.of false l).row]) g (TM.pures _) (by
    show freezeL (fr1 id l.length (TM.flat l)) [.str nm, .sl id 0 l.length cap] = some [.str nm, .ros (TM.flat l) l.length]
    simp [freezeL, fr1, AVal.pure]) hr h
theorem Called.pure {Y : TM → Prop} {E : Int → Prop} {r : AVal} (h : Called Y E r) : r.pure = true := by
  rcases h with ⟨y, _, _, rfl⟩ | ⟨_, rfl⟩
  · have := TM.pures1 (norm y)
    simp only [AVal.pures, AVal.pure, Bool.and_true] at this ⊢
    exact this
  · rfl
end Go.Am.Rl
