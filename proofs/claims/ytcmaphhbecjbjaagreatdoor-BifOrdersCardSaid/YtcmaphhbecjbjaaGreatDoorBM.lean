/- Parts: B13, B14, B15, B16, B17. -/
import Derived.Test.YtcmaphhbecjbjaaGreatDoorB7
import Derived.Test.YtcmaphhbecjbjaaGreatDoorBF
import Derived.Test.YtcmaphhbecjbjaaGreatDoorFnP
set_option linter.unusedVariables false
set_option linter.unusedSimpArgs false
set_option maxRecDepth 20000
/- A term looked at by the program: its own words, its fields. -/
namespace Go.Am.Rl
open Go.Proofs
def symP : FuncId → List Nat := fun f => if f = 98 then [10, 11, 12, 14, 15, 17, 21] else if f = 99 then [10, 14, 17, 21, 24, 28, 33, 44, 49, 52, 73, 85, 88, 89, 101, 109, 114, 117, 118] else if f = 102 then [5] else if f = 107 then [6, 10, 14] else []
def tabP : Tab := [(98, f98), (99, f99), (102, f102), (107, f107), (147, f147)]
theorem tabP_ok : tabP.Ok Tryz.prog := ⟨⟨Tryz.f98, kof k98, by kernel_rfl, c98, by kernel_rfl⟩, ⟨Tryz.f99, kof k99, by kernel_rfl, c99, by kernel_rfl⟩, ⟨Tryz.f102, kof k102, by kernel_rfl, c102, by kernel_rfl⟩, ⟨Tryz.f107, kof k107, by kernel_rfl, c107, by kernel_rfl⟩, ⟨Tryz.f147, kof k147, by kernel_rfl, c147, by kernel_rfl⟩, trivial⟩
def runP (f : FuncId) (xs : List AVal) (F : AVal → AHeap → Bool) : Bool := pcall tabP symP CallK.none 1000 4 f xs AHeap.empty F
theorem runP_sound {f : FuncId} {xs : List AVal} {F : AVal → AHeap → Bool} (h : runP f xs F = true) : DCall Tryz.prog f xs AHeap.empty fun r H' => F r H' = true := pcall_sound mixed tabP_ok (CallK.none_ok _) 4 f xs AHeap.empty F h fun _ _ h => h
theorem e175a (k n : Int) (f : Nat) (s : ByteArray) : runP 98 (T5 k n f s .nils) (fun r _ => isI r) = true := by kernel_rfl
theorem e175b (k n : Int) (f : Nat) (s : ByteArray) (cs : List AVal) (m : Nat) : runP 98 (T5 k n f s (.ros cs m)) (fun r _ => isI r) = true := by kernel_rfl
theorem e176a (k n : Int) (f : Nat) (s : ByteArray) : runP 99 (T5 k n f s .nils) (fun r _ => isB r) = true := by kernel_rfl
theorem e176b (k n : Int) (f : Nat) (s : ByteArray) (cs : List AVal) (m : Nat) : runP 99 (T5 k n f s (.ros cs m)) (fun r _ => isB r) = true := by kernel_rfl
end Go.Am.Rl

/- The program's walk over a term: it ends. -/
namespace Go.Am.Rl
open Go.Proofs

theorem g175 (t : TM) (H : AHeap) : DCall Tryz.prog 98 [t.agg] H fun r H' => (∃ n, r = .int .i64 n) ∧ H' = H := by
  have h : DCall Tryz.prog 98 [t.agg] AHeap.empty fun r H' => ∃ n, r = .int .i64 n ∧ True := by
    cases t with
    | mk k n f s nl l =>
      cases nl with
      | true => exact (runP_sound (e175a k n f s)).mono fun r H' e => by obtain ⟨n, hn⟩ := isI_ex e; exact ⟨n, hn, trivial⟩
      | false => exact (runP_sound (e175b k n f s (TM.flat l) l.length)).mono fun r H' e => by obtain ⟨n, hn⟩ := isI_ex e; exact ⟨n, hn, trivial⟩
  exact (DCall.ints (TM.pures1 t) h H).mono fun r H' ⟨⟨n, h1, _⟩, h2⟩ => ⟨⟨n, h1⟩, h2⟩
theorem g176 (t : TM) (H : AHeap) : DCall Tryz.prog 99 [t.agg] H fun r H' => (∃ b, r = .bool b) ∧ H' = H := by
  have h : DCall Tryz.prog 99 [t.agg] AHeap.empty fun r H' => ∃ b, r = .bool b ∧ True := by
    cases t with
    | mk k n f s nl l =>
      cases nl with
      | true => exact (runP_sound (e176a k n f s)).mono fun r H' e => by obtain ⟨n, hn⟩ := isB_ex e; exact ⟨n, hn, trivial⟩
      | false => exact (runP_sound (e176b k n f s (TM.flat l) l.length)).mono fun r H' e => by obtain ⟨n, hn⟩ := isB_ex e; exact ⟨n, hn, trivial⟩
  exact (DCall.bools (TM.pures1 t) h H).mono fun r H' ⟨⟨n, h1, _⟩, h2⟩ => ⟨⟨n, h1⟩, h2⟩

theorem TM.ones5 (t : TM) : ones (TM.c5 t) = true := by
  cases t with
  | mk k n f s nl l => cases nl <;> rfl
/-- A look's block. -/
def LK (H : AHeap) (id : Nat) : Prop := ∃ a b c e, H.get id = some (.cells 63 [.int .i64 a, .int .i64 b, .bool c, .bool e])
/-- Only that block, and new ones. -/
def But (H H' : AHeap) (id : Nat) : Prop := H.next ≤ H'.next ∧ ∀ j, j < H.next → j ≠ id → H'.get j = H.get j
theorem But.trans {H H1 H2 : AHeap} {id : Nat} (h : But H H1 id) (k : But H1 H2 id) : But H H2 id := ⟨Nat.le_trans h.1 k.1, fun j hj hn => (k.2 j (Nat.lt_of_lt_of_le hj h.1) hn).trans (h.2 j hj hn)⟩
theorem But.refl (H : AHeap) (id : Nat) : But H H id := ⟨Nat.le_refl _, fun _ _ _ => rfl⟩
theorem But.set {H : AHeap} {id : Nat} (b : ABlk) : But H (H.set id b) id := ⟨Nat.le_refl _, fun j hj hn => by rw [AHeap.get_set, if_neg hn]⟩
theorem But.push {H : AHeap} {id : Nat} (b : ABlk) : But H (H.push b) id := ⟨by simp, fun j hj hn => by rw [AHeap.get_push, if_neg (by omega)]⟩
theorem LK.push {H : AHeap} {id : Nat} (h : LK H id) (b : ABlk) : LK (H.push b) id := by
  obtain ⟨x, y, z, w, h⟩ := h
  exact ⟨x, y, z, w, by rw [AHeap.get_push, if_neg (by have := AHeap.get_lt h; omega)]; exact h⟩

section
variable {t : TM} {id : Nat} {k k' : List AItem} {Q : Env → AHeap → Prop}
theorem loop164 (ok : t.ok) (ih : ∀ x ∈ t.l, x.ok → ∀ (d : Int) (H : AHeap), LK H id → DCall Tryz.prog 61 [.ptr id 0, x.agg, .int .i64 d] H fun r H' => LK H' id ∧ But H H' id) (d : Int) (hk : aexitTo 0 k = some k')
    {H0 : AHeap} (hend : ∀ H, LK H id → But H0 H id → DR Tryz.prog (kof k61) 68 k' [] H Q) (hret : ∀ T H, LK H id → But H0 H id → Q T H) :
    ∀ (e i : Nat) (H : AHeap), i + e = t.l.length → LK H id → But H0 H id → DR Tryz.prog (kof k61) 68 (.code l61_0 :: .inLoop l61_0 :: k) [(0, .ptr id 0), (2, .int .i64 d), (52, t.row), (53, .int .i64 (t.l.length : Nat)), (54, .int .i64 (i : Nat))] H Q := by
  intro e
  induction e with
  | zero =>
    intro i H hi hH hB
    have hc : abin .lss (.int .i64 (i : Nat)) (.int .i64 (t.l.length : Nat)) = some (.bool false) := by simp [abin]; omega
    refine DR.go rfl ?_
    simp -dsimp only [SZ, EZ, astep, aun, AVal.cells, seval, hc]
    refine DR.ne rfl rfl ?_
    refine DR.nm rfl ?_
    refine DR.exit hk ?_
    exact DR.only [] (hend H hH hB)
  | succ e ih2 =>
    intro i H hi hH hB
    have hc : abin .lss (.int .i64 (i : Nat)) (.int .i64 (t.l.length : Nat)) = some (.bool true) := by simp [abin]; omega
    have hlt : i < t.l.length := by omega
    have hx : t.l[i]? = some t.l[i] := List.getElem?_eq_getElem hlt
    have hxo := TM.ok_at ok hx
    have ra := TM.row_at ok hx H
    have la := TM.load t.l[i] (TM.flat (t.l.drop (i + 1))) H
    have hle := TM.len_le ok
    have hw : IntKind.i64.wrap ((i : Int) + 1) = ((i + 1 : Nat) : Int) := wrap64 (n := i + 1) (by omega)
    obtain ⟨H1, hH1, g1, n1, f1⟩ := psh H (.cells 25 [.int .i64 0, .int .i64 0, .flt .f64 0, .str ⟨#[]⟩, .nils])
    have st : astore H1 5 (.ptr H.next 0) (AVal.agg (TM.c5 t.l[i])) = some (H1.set H.next (.cells 25 (TM.c5 t.l[i]))) := store_all (n := 5) (new := TM.c5 t.l[i]) g1 rfl (TM.ones5 _) rfl
    obtain ⟨H2, hH2, g2, n2, f2⟩ := upd g1 (.cells 25 (TM.c5 t.l[i]))
    have l2 := load_all (n := 5) g2 rfl
    have hk2 : LK H2 id := by
      obtain ⟨a, b, c, e, h⟩ := hH
      have hlt := AHeap.get_lt h
      exact ⟨a, b, c, e, by rw [f2 id (by omega), f1 id hlt]; exact h⟩
    have hB2 : But H H2 id := ⟨by rw [n2, n1]; omega, fun j hj _ => by rw [f2 j (by omega), f1 j hj]⟩
    refine DR.go rfl ?_
    simp -dsimp only [SZ, EZ, astep, aun, AVal.cells, seval, hc]
    refine DR.ye rfl rfl ?_
    refine DR.go rfl ?_
    simp -dsimp only [SZ, EZ, astep, aun, AVal.cells, seval, ra, la, ← hH1, st, ← hH2]
    refine DR.go rfl ?_
    simp -dsimp only [SZ, EZ, astep, aun, AVal.cells, seval, l2, abin]
    refine (ih _ (List.getElem_mem hlt) hxo _ H2 hk2).mono ?_
    rintro r H3 ⟨hk3, hb3⟩
    simp -dsimp only [SZ, EZ, astep, aun, AVal.cells, seval]
    obtain ⟨a, b, c, o, h3⟩ := hk3
    have l3 := load_cell h3 (o := 3) (v := .bool o) rfl
    refine DR.go rfl ?_
    simp -dsimp only [SZ, EZ, astep, aun, AVal.cells, seval, l3]
    cases o with
    | true =>
      refine DR.ye rfl rfl ?_
      refine DR.nm rfl ?_
      exact DR.ret (hret _ _ ⟨_, _, _, _, h3⟩ ((hB.trans hB2).trans hb3))
    | false =>
      refine DR.ne rfl rfl ?_
      refine DR.go rfl ?_
      simp -dsimp only [SZ, EZ, astep, aun, AVal.cells, seval, hw, abin]
      refine DR.nm rfl ?_
      refine DR.inLoop ?_
      exact ih2 (i + 1) H3 (by omega) ⟨_, _, _, _, h3⟩ ((hB.trans hB2).trans hb3)
end
theorem g164 : ∀ t : TM, t.ok → ∀ (id : Nat) (d : Int) (H : AHeap), LK H id → DCall Tryz.prog 61 [.ptr id 0, t.agg, .int .i64 d] H fun r H' => LK H' id ∧ But H H' id := by
  refine TM.all fun t ih ok id d H hH => ?_
  obtain ⟨a, b, c, e, h0⟩ := hH
  have hlt := AHeap.get_lt h0
  obtain ⟨H1, hH1, g1, n1, f1⟩ := psh H (.cells 25 (TM.c5 t))
  have h1 := (f1 id hlt).trans h0
  have l1 := load_cell h1 (o := 1) (v := .int .i64 b) rfl
  have mx : Env.vals [(12, .int .i64 b), (13, .int .i64 d)] [.t 12, .t 13] = some [.int .i64 b, .int .i64 d] := rfl
  obtain ⟨m, hm⟩ : ∃ m, aext 6 [.int .i64 b, .int .i64 d] = some (.int .i64 m) := ⟨_, rfl⟩
  have st1 : astore H1 1 (.ptr id 1) (.int .i64 m) = some (H1.set id (.cells 63 [.int .i64 a, .int .i64 m, .bool c, .bool e])) := astore_one h1 (o := 1) (by simp) rfl
  obtain ⟨H2, hH2, g2, n2, f2⟩ := upd h1 (.cells 63 [.int .i64 a, .int .i64 m, .bool c, .bool e])
  have b2 : But H H2 id := ⟨by rw [n2, n1]; omega, fun j hj hn => by rw [f2 j hn, f1 j hj]⟩
  have t2 : H2.get H.next = some (.cells 25 (TM.c5 t)) := (f2 H.next (by omega)).trans g1
  have lt2 := load_all (n := 5) t2 rfl
  refine DCall.of_body (fn := Tryz.f61) (by kernel_rfl) c61 (by kernel_rfl) (by simp [f61]) ?_
  unfold f61
  simp only []
  refine DR.go rfl ?_
  simp -dsimp only [SZ, EZ, astep, aun, AVal.cells, seval, ← hH1]
  refine DR.go rfl ?_
  simp -dsimp only [SZ, EZ, astep, aun, AVal.cells, seval, l1, hm, st1, ← hH2]
  obtain ⟨b1, hb1⟩ := bcmp .gtr .i64 d 200 rfl
  refine DR.go rfl ?_
  simp -dsimp only [SZ, EZ, astep, aun, AVal.cells, seval, hb1]
  cases b1 with
  | true =>
    have st3 : astore H2 1 (.ptr id 3) (.bool true) = some (H2.set id (.cells 63 [.int .i64 a, .int .i64 m, .bool c, .bool true])) := astore_one g2 (o := 3) (by simp) rfl
    obtain ⟨H3, hH3, g3, n3, f3⟩ := upd g2 (.cells 63 [.int .i64 a, .int .i64 m, .bool c, .bool true])
    refine DR.ye rfl rfl ?_
    refine DR.go rfl ?_
    simp -dsimp only [SZ, EZ, astep, aun, AVal.cells, seval, st3, ← hH3]
    refine DR.nm rfl ?_
    exact DR.ret ⟨.tup [], rfl, ⟨_, _, _, _, g3⟩, b2.trans ⟨by rw [n3]; omega, fun j hj hn => f3 j hn⟩⟩
  | false =>
    have l0 := load_cell g2 (o := 0) (v := .int .i64 a) rfl
    refine DR.ne rfl rfl ?_
    refine DR.nm rfl ?_
    refine DR.draw (by kernel_rfl) d61_4 ?_
    simp -dsimp only [m61_4, SZ, EZ, astep, aun, AVal.cells, seval, DS_nil, DS_cons, seesAll, staysAll, abit, List.getD_cons_zero, List.getD_cons_succ, AOp.quiet, AOp.reads, true_and, and_true, decide_true, decide_false, and_self, l0, lt2]
    refine (g175 t H2).mono ?_
    rintro r H' ⟨⟨n, rfl⟩, he⟩
    obtain rfl := he.symm
    obtain ⟨a2, ha2⟩ : ∃ a2, abin .add (.int .i64 a) (.int .i64 n) = some (.int .i64 a2) := ⟨_, rfl⟩
    have st4 : astore H2 1 (.ptr id 0) (.int .i64 a2) = some (H2.set id (.cells 63 [.int .i64 a2, .int .i64 m, .bool c, .bool e])) := astore_one g2 (o := 0) (by simp) rfl
    obtain ⟨H4, hH4, g4, n4, f4⟩ := upd g2 (.cells 63 [.int .i64 a2, .int .i64 m, .bool c, .bool e])
    have b4 : But H H4 id := b2.trans ⟨by rw [n4]; omega, fun j hj hn => f4 j hn⟩
    have t4 : H4.get H.next = some (.cells 25 (TM.c5 t)) := (f4 H.next (by omega)).trans t2
    have lt4 := load_all (n := 5) t4 rfl
    have l40 := load_cell g4 (o := 0) (v := .int .i64 a2) rfl
    have l42 := load_cell g4 (o := 2) (v := .bool c) rfl
    have l44 := load_cell t4 (o := 4) (v := t.row) rfl
    obtain ⟨b5, hb5⟩ := bcmp .gtr .i64 a2 65536 rfl
    simp -dsimp only [SZ, EZ, astep, aun, AVal.cells, seval, DS_nil, DS_cons, seesAll, staysAll, abit, List.getD_cons_zero, List.getD_cons_succ, AOp.quiet, AOp.reads, true_and, and_true, decide_true, decide_false, and_self, l0, lt2, ha2, st4, ← hH4]
    refine DR.go rfl ?_
    simp -dsimp only [SZ, EZ, astep, aun, AVal.cells, seval, l40, hb5]
    cases b5 with
    | true =>
      have st6 : astore H4 1 (.ptr id 3) (.bool true) = some (H4.set id (.cells 63 [.int .i64 a2, .int .i64 m, .bool c, .bool true])) := astore_one g4 (o := 3) (by simp) rfl
      obtain ⟨H6, hH6, g6, n6, f6⟩ := upd g4 (.cells 63 [.int .i64 a2, .int .i64 m, .bool c, .bool true])
      refine DR.ye rfl rfl ?_
      refine DR.go rfl ?_
      simp -dsimp only [SZ, EZ, astep, aun, AVal.cells, seval, st6, ← hH6]
      refine DR.nm rfl ?_
      exact DR.ret ⟨.tup [], rfl, ⟨_, _, _, _, g6⟩, b4.trans ⟨by rw [n6]; omega, fun j hj hn => f6 j hn⟩⟩
    | false =>
      have go : ∀ z : Bool, DR Tryz.prog (kof k61) 68 [.code (.seq (.region false r61_8 [0, 2, 52, 53, 54]) (.block 0 (.loop l61_0)))] [(0, .ptr id 0), (2, .int .i64 d), (4, .ptr H.next 0)] (H4.set id (.cells 63 [.int .i64 a2, .int .i64 m, .bool z, .bool e])) fun T' H' => ∃ r, aresult H' T' [] = some r ∧ LK H' id ∧ But H H' id := by
        intro z
        obtain ⟨H7, hH7, g7, n7, f7⟩ := upd g4 (.cells 63 [.int .i64 a2, .int .i64 m, .bool z, .bool e])
        rw [← hH7]
        have b7 : But H H7 id := b4.trans ⟨by rw [n7]; omega, fun j hj hn => f7 j hn⟩
        have l74 := load_cell ((f7 H.next (by omega)).trans t4) (o := 4) (v := t.row) rfl
        have hl := TM.lenT ok H7
        refine DR.go rfl ?_
        simp -dsimp only [SZ, EZ, astep, aun, AVal.cells, seval, l74, hl]
        refine DR.nm rfl ?_
        refine DR.loop ?_
        refine loop164 ok (fun x hx hxo d H hH => ih x hx hxo id d H hH) d rfl (H0 := H) (fun H8 h8 b8 => ?_) (fun T H8 h8 b8 => ⟨.tup [], rfl, h8, b8⟩) t.l.length 0 H7 (by omega) ⟨_, _, _, _, g7⟩ b7
        refine DR.nm rfl ?_
        exact DR.done ⟨.tup [], rfl, h8, b8⟩
      refine DR.ne rfl rfl ?_
      cases c with
      | true =>
        have st7 : astore H4 1 (.ptr id 2) (.bool true) = some (H4.set id (.cells 63 [.int .i64 a2, .int .i64 m, .bool true, .bool e])) := astore_one g4 (o := 2) (by simp) rfl
        refine DR.go rfl ?_
        simp -dsimp only [SZ, EZ, astep, aun, AVal.cells, seval, l42, st7]
        exact go true
      | false =>
        refine DR.go rfl ?_
        simp -dsimp only [SZ, EZ, astep, aun, AVal.cells, seval, l42, lt4]
        refine (g176 t H4).mono ?_
        rintro r H' ⟨⟨z, rfl⟩, he⟩
        obtain rfl := he.symm
        have st7 : astore H4 1 (.ptr id 2) (.bool !z) = some (H4.set id (.cells 63 [.int .i64 a2, .int .i64 m, .bool !z, .bool e])) := astore_one g4 (o := 2) (by simp) rfl
        simp -dsimp only [SZ, EZ, astep, aun, AVal.cells, seval, st7]
        exact go !z
end Go.Am.Rl

/- The program's Check tells an error's number, Copy the same term. -/
namespace Go.Am.Rl
open Go.Proofs

theorem g135 (t : TM) (ok : t.ok) (H : AHeap) : DCall Tryz.prog 30 [t.agg] H fun r H' => (∃ a b c d e, r = .tup [.agg [.int .i64 a, .int .i64 b, .bool c, .bool d], .int .i64 e]) ∧ H' = H := by
  refine DCall.closed (sz := szs) (TM.pures1 t) (Q := fun r H1 => ∃ a b c d e, r = .tup [.agg [.int .i64 a, .int .i64 b, .bool c, .bool d], .int .i64 e]) ?_ (fun r H1 ⟨a, b, c, d, e, he⟩ => ⟨5, r, by rw [he]; rfl, a, b, c, d, e, he⟩) H
  have hz : [AVal.int .i64 0, .int .i64 0, .bool false, .bool false] = [AVal.int .i64 0, .int .i64 0, .bool false, .bool false] := rfl
  obtain ⟨H1, hH1, g1, n1, f1⟩ := psh AHeap.empty (.cells 25 (TM.c5 t))
  obtain ⟨H2, hH2, g2, n2, f2⟩ := psh H1 (.cells 63 [.int .i64 0, .int .i64 0, .bool false, .bool false])
  obtain ⟨H3, hH3, g3, n3, f3⟩ := psh H2 (.cells 63 [.int .i64 0, .int .i64 0, .bool false, .bool false])
  have t1 : H3.get AHeap.empty.next = some (.cells 25 (TM.c5 t)) := (f3 _ (by rw [n2, n1]; omega)).trans ((f2 _ (by rw [n1]; omega)).trans g1)
  have t2 : H3.get H1.next = some (.cells 63 [.int .i64 0, .int .i64 0, .bool false, .bool false]) := (f3 _ (by rw [n2]; omega)).trans g2
  have la := load_all (n := 5) t1 rfl
  refine DCall.of_body (fn := Tryz.f30) (by kernel_rfl) c30 (by kernel_rfl) (by simp [f30]) ?_
  unfold f30
  simp only []
  refine DR.go rfl ?_
  simp -dsimp only [SZ, EZ, astep, aun, AVal.cells, seval, ← hH1, ← hH2]
  refine DR.go rfl ?_
  simp -dsimp only [SZ, EZ, astep, aun, AVal.cells, seval, ← hH3]
  refine DR.go rfl ?_
  simp -dsimp only [SZ, EZ, astep, aun, AVal.cells, seval, la]
  refine (g164 t ok H2.next 1 H3 ⟨_, _, _, _, g3⟩).mono ?_
  rintro r H4 ⟨⟨a, b, c, e, h4⟩, b4⟩
  have t4 : H4.get H1.next = some (.cells 63 [.int .i64 0, .int .i64 0, .bool false, .bool false]) := (b4.2 _ (by rw [n3, n2]; omega) (by rw [n2]; omega)).trans t2
  have l3 := load_cell h4 (o := 3) (v := .bool e) rfl
  have l2 := load_cell h4 (o := 2) (v := .bool c) rfl
  have l0 := load_all (n := 4) h4 rfl
  have fin : ∀ X : List AVal, (∃ a b c d, X = [.int .i64 a, .int .i64 b, .bool c, .bool d]) → astore H4 4 (.ptr H1.next 0) (.agg X) = some (H4.set H1.next (.cells 63 X)) ∧ aload (H4.set H1.next (.cells 63 X)) (some 4) (.ptr H1.next 0) = some (.agg X) := by
    rintro X ⟨a, b, c, d, rfl⟩
    exact ⟨store_all (n := 4) (new := [.int .i64 a, .int .i64 b, .bool c, .bool d]) t4 rfl rfl rfl, load_all (n := 4) (by rw [AHeap.get_set, if_pos rfl, if_pos (AHeap.get_lt t4)]) rfl⟩
  simp -dsimp only [SZ, EZ, astep, aun, AVal.cells, seval]
  refine DR.go rfl ?_
  simp -dsimp only [SZ, EZ, astep, aun, AVal.cells, seval, l3]
  cases e with
  | true =>
    obtain ⟨s1, s2⟩ := fin _ ⟨0, 0, false, false, rfl⟩
    refine DR.ye rfl rfl ?_
    refine DR.go rfl ?_
    simp -dsimp only [SZ, EZ, astep, aun, AVal.cells, seval, Env.parts, afill, s1]
    refine DR.nm rfl ?_
    exact DR.ret ⟨.tup [.agg [.int .i64 0, .int .i64 0, .bool false, .bool false], .int .i64 12], by simp [aresult, ares, Env.get, s2], _, _, _, _, _, rfl⟩
  | false =>
    refine DR.ne rfl rfl ?_
    refine DR.go rfl ?_
    simp -dsimp only [SZ, EZ, astep, aun, AVal.cells, seval, l2]
    cases c with
    | true =>
      obtain ⟨s1, s2⟩ := fin _ ⟨0, 0, false, false, rfl⟩
      refine DR.ye rfl rfl ?_
      refine DR.go rfl ?_
      simp -dsimp only [SZ, EZ, astep, aun, AVal.cells, seval, Env.parts, afill, s1]
      refine DR.nm rfl ?_
      exact DR.ret ⟨.tup [.agg [.int .i64 0, .int .i64 0, .bool false, .bool false], .int .i64 4], by simp [aresult, ares, Env.get, s2], _, _, _, _, _, rfl⟩
    | false =>
      obtain ⟨s1, s2⟩ := fin _ ⟨a, b, false, false, rfl⟩
      refine DR.ne rfl rfl ?_
      refine DR.go rfl ?_
      simp -dsimp only [SZ, EZ, astep, aun, AVal.cells, seval, l0, s1]
      refine DR.nm rfl ?_
      exact DR.ret ⟨.tup [.agg [.int .i64 a, .int .i64 b, .bool false, .bool false], .int .i64 0], by simp [aresult, ares, Env.get, s2], _, _, _, _, _, rfl⟩
theorem g87 (t : TM) (ok : t.ok) (H : AHeap) : DCall Tryz.prog 17 [t.agg] H fun r H' => (∃ e, r = .int .i64 e) ∧ H' = H := by
  have h : DCall Tryz.prog 17 [t.agg] AHeap.empty fun r H' => ∃ n, r = .int .i64 n ∧ True := by
    obtain ⟨H1, hH1, g1, n1, f1⟩ := psh AHeap.empty (.cells 25 (TM.c5 t))
    have la := load_all (n := 5) g1 rfl
    refine DCall.of_body (fn := Tryz.f17) (by kernel_rfl) c17 (by kernel_rfl) (by simp [f17]) ?_
    unfold f17
    simp only []
    refine DR.go rfl ?_
    simp -dsimp only [SZ, EZ, astep, aun, AVal.cells, seval, ← hH1]
    refine DR.go rfl ?_
    simp -dsimp only [SZ, EZ, astep, aun, AVal.cells, seval, la]
    refine (g135 t ok H1).mono ?_
    rintro r H' ⟨⟨a, b, c, d, e, rfl⟩, he⟩
    obtain rfl := he.symm
    obtain ⟨H2, hH2, g2, n2, f2⟩ := psh H1 (.cells 63 [.int .i64 0, .int .i64 0, .bool false, .bool false])
    have s1 : astore H2 4 (.ptr H1.next 0) (.agg [.int .i64 a, .int .i64 b, .bool c, .bool d]) = some (H2.set H1.next (.cells 63 [.int .i64 a, .int .i64 b, .bool c, .bool d])) := store_all (n := 4) (new := [.int .i64 a, .int .i64 b, .bool c, .bool d]) g2 rfl rfl rfl
    simp -dsimp only [SZ, EZ, astep, aun, AVal.cells, seval, ← hH2, s1]
    refine DR.go rfl ?_
    simp -dsimp only [SZ, EZ, astep, aun, AVal.cells, seval]
    refine DR.nm rfl ?_
    exact DR.ret ⟨_, by simp [aresult, ares, Env.get] <;> rfl, ⟨_, rfl, trivial⟩⟩
  exact (DCall.ints (TM.pures1 t) h H).mono fun r H' ⟨⟨n, h1, _⟩, h2⟩ => ⟨⟨n, h1⟩, h2⟩
end Go.Am.Rl

/- The program's Copy: the same term; rows without elements are nil. -/
namespace Go.Am.Rl
open Go.Proofs

mutual
/-- The same term, its empty rows nil. -/
def norm : TM → TM
  | .mk k n f s nl l => .mk k n f s l.isEmpty (norms l)
def norms : List TM → List TM
  | [] => []
  | t :: r => norm t :: norms r
end
theorem norms_map : ∀ l : List TM, norms l = l.map norm
  | [] => rfl
  | t :: r => by rw [norms, norms_map r]; rfl
theorem norm_c5 (t : TM) : TM.c5 (norm t) = [.int .i64 t.k, .int .i64 t.n, .flt .f64 t.f, .str t.s, (TM.of t.l.isEmpty (norms t.l)).row] := by cases t; rfl
theorem flat_app : ∀ a b : List TM, TM.flat (a ++ b) = TM.flat a ++ TM.flat b
  | [], b => rfl
  | t :: r, b => by rw [List.cons_append, TM.flat, TM.flat, flat_app r b, List.append_assoc]
theorem TM.of_ok {nl : Bool} {l : List TM} (h : TM.oks l) (hl : l.length ≤ 2 ^ 41) (hn : nl = true → l = []) : (TM.of nl l).ok := ⟨by kernel_rfl, by kernel_rfl, by kernel_rfl, Nat.zero_le _, hl, hn, h⟩
theorem TM.row_of (t : TM) : t.row = (TM.of t.nl t.l).row := rfl
theorem TM.ok_of {t : TM} (h : t.ok) : (TM.of t.nl t.l).ok := by
  cases t with
  | mk k n f s nl l => exact TM.of_ok h.2.2.2.2.2.2 h.2.2.2.2.1 h.2.2.2.2.2.1

section
variable {u : TM} {k k' : List AItem} {Q : Env → AHeap → Prop}
theorem loop68 (ok : u.ok) (ih : ∀ x ∈ u.l, x.ok → ∀ H, DCall Tryz.prog 59 [x.agg] H fun r H' => r = (norm x).agg ∧ H' = H) (hk : aexitTo 0 k = some k')
    (hend : ∀ H v, Grow H 25 5 v u.l.length (TM.flat (norms u.l)) → (u.l.length = 0 → v = .nils) → DR Tryz.prog (kof k81) 19 k' [(3, v)] H Q) :
    ∀ (e i : Nat) (H : AHeap) (v : AVal), i + e = u.l.length → Grow H 25 5 v i (TM.flat (norms (u.l.take i))) → (i = 0 → v = .nils) → DR Tryz.prog (kof k81) 19 (.code l81_0 :: .inLoop l81_0 :: k) [(3, v), (6, u.row), (7, .int .i64 (u.l.length : Nat)), (8, .int .i64 (i : Nat))] H Q := by
  intro e
  induction e with
  | zero =>
    intro i H v hi hv hz
    have hc : abin .lss (.int .i64 (i : Nat)) (.int .i64 (u.l.length : Nat)) = some (.bool false) := by simp [abin]; omega
    refine DR.go rfl ?_
    simp -dsimp only [SZ, EZ, astep, aun, AVal.cells, seval, hc]
    refine DR.ne rfl rfl ?_
    refine DR.nm rfl ?_
    refine DR.exit hk ?_
    obtain rfl : i = u.l.length := by omega
    rw [List.take_length] at hv
    exact DR.only [3] (hend H v hv hz)
  | succ e ih2 =>
    intro i H v hi hv hz
    have hc : abin .lss (.int .i64 (i : Nat)) (.int .i64 (u.l.length : Nat)) = some (.bool true) := by simp [abin]; omega
    have hlt : i < u.l.length := by omega
    have hx : u.l[i]? = some u.l[i] := List.getElem?_eq_getElem hlt
    have hxo := TM.ok_at ok hx
    have ra := TM.row_at ok hx H
    have la := TM.load u.l[i] (TM.flat (u.l.drop (i + 1))) H
    have hle := TM.len_le ok
    have hw : IntKind.i64.wrap ((i : Int) + 1) = ((i + 1 : Nat) : Int) := wrap64 (n := i + 1) (by omega)
    obtain ⟨H1, hH1, g1, n1, f1⟩ := psh H (.cells 25 [.int .i64 0, .int .i64 0, .flt .f64 0, .str ⟨#[]⟩, .nils])
    have st : astore H1 5 (.ptr H.next 0) (AVal.agg (TM.c5 u.l[i])) = some (H1.set H.next (.cells 25 (TM.c5 u.l[i]))) := store_all (n := 5) (new := TM.c5 u.l[i]) g1 rfl (TM.ones5 _) rfl
    obtain ⟨H2, hH2, g2, n2, f2⟩ := upd g1 (.cells 25 (TM.c5 u.l[i]))
    have l2 := load_all (n := 5) g2 rfl
    have hv2 : Grow H2 25 5 v i (TM.flat (norms (u.l.take i))) := hv.frame fun j hj => by
      have := hv.lt hj
      rw [f2 j (by omega), f1 j this]
    refine DR.go rfl ?_
    simp -dsimp only [SZ, EZ, astep, aun, AVal.cells, seval, hc]
    refine DR.ye rfl rfl ?_
    refine DR.go rfl ?_
    simp -dsimp only [SZ, EZ, astep, aun, AVal.cells, seval, ra, la, ← hH1, st, ← hH2]
    refine DR.go rfl ?_
    simp -dsimp only [SZ, EZ, astep, aun, AVal.cells, seval, l2]
    refine (ih _ (List.getElem_mem hlt) hxo H2).mono ?_
    rintro r H' ⟨rfl, he⟩
    obtain rfl := he.symm
    obtain ⟨H3, hH3, g3, n3, f3⟩ := psh H2 (.cells 25 (TM.c5 (norm u.l[i])))
    have hv3 : Grow H3 25 5 v i (TM.flat (norms (u.l.take i))) := hv2.frame fun j hj => f3 j (hv2.lt hj)
    obtain ⟨v', H4, ha, hg, _, _, _⟩ := hv3.one (b := 64) g3 rfl (TM.ones5 _) (by omega) (by omega) (by omega)
    have hcell : TM.flat (norms (u.l.take i)) ++ TM.c5 (norm u.l[i]) = TM.flat (norms (u.l.take (i + 1))) := by
      rw [List.take_add_one, hx, norms_map, norms_map, List.map_append, flat_app]
      simp only [Option.toList_some, List.map_cons, List.map_nil, TM.flat, List.append_nil]
      rw [TM.cells_eq]
    rw [hcell] at hg
    simp -dsimp only [SZ, EZ, astep, aun, seval, TM.agg, AVal.cells, Env.parts, afill, aput, List.length_cons, List.length_nil, List.drop_succ_cons, List.drop_zero, List.drop_nil, List.append_nil, List.cons_append, List.nil_append, List.take_succ_cons, List.take_zero, ← hH3, ha]
    refine DR.go rfl ?_
    simp -dsimp only [SZ, EZ, astep, aun, AVal.cells, seval, hw, abin]
    refine DR.nm rfl ?_
    refine DR.inLoop ?_
    exact ih2 (i + 1) H4 v' (by omega) hg (fun h => by omega)
end
theorem g68 {u : TM} (ok : u.ok) (ih : ∀ x ∈ u.l, x.ok → ∀ H, DCall Tryz.prog 59 [x.agg] H fun r H' => r = (norm x).agg ∧ H' = H) (H : AHeap) : DCall Tryz.prog 81 [u.row] H fun r H' => r = (TM.of u.l.isEmpty (norms u.l)).row ∧ H' = H := by
  have hlen : (norms u.l).length = u.l.length := by rw [norms_map, List.length_map]
  refine DCall.closed (sz := szs) (TM.purer) (Q := fun r H1 => Grow H1 25 5 r u.l.length (TM.flat (norms u.l)) ∧ (u.l.length = 0 → r = .nils)) (Q' := fun r => r = (TM.of u.l.isEmpty (norms u.l)).row) ?_ ?_ H
  · have hl := TM.lenT ok AHeap.empty
    refine DCall.of_body (fn := Tryz.f81) (by kernel_rfl) c81 (by kernel_rfl) (by simp [f81]) ?_
    unfold f81
    simp only []
    refine DR.go rfl ?_
    simp -dsimp only [SZ, EZ, astep, aun, AVal.cells, seval]
    refine DR.go rfl ?_
    simp -dsimp only [SZ, EZ, astep, aun, AVal.cells, seval]
    refine DR.go rfl ?_
    simp -dsimp only [SZ, EZ, astep, aun, AVal.cells, seval, hl]
    refine DR.nm rfl ?_
    refine DR.loop ?_
    refine loop68 ok ih rfl (fun H v hv hz => ?_) u.l.length 0 AHeap.empty .nils (by omega) (Grow.nils _ _ _) (fun _ => rfl)
    refine DR.go rfl ?_
    simp -dsimp only [SZ, EZ, astep, aun, AVal.cells, seval]
    refine DR.nm rfl ?_
    exact DR.ret ⟨_, by simp [aresult, ares, Env.get] <;> rfl, hv, hz⟩
  · rintro r H1 ⟨hg, hz⟩
    have hcs : (TM.flat (norms u.l)).length = u.l.length * 5 := by rw [TM.flat_length, hlen]
    have hp := TM.pures (norms u.l)
    by_cases h0 : u.l.length = 0
    · have hl : u.l = [] := List.length_eq_zero_iff.mp h0
      rw [hz h0, hl]
      exact ⟨1, .nils, rfl, rfl⟩
    · obtain ⟨_, ⟨_, h⟩ | ⟨id, rfl, hb⟩⟩ := hg
      · exact absurd h h0
      · refine ⟨SizeOf.sizeOf (TM.flat (norms u.l)) + 1, .ros (TM.flat (norms u.l)) u.l.length, ?_, ?_⟩
        · have h1 : freezeL (freeze szs H1 (SizeOf.sizeOf (TM.flat (norms u.l)))) (TM.flat (norms u.l)) = some (TM.flat (norms u.l)) := freezeL_all fun a ha => freeze_pure _ a (List.sizeOf_lt_of_mem ha) (pures_mem hp a ha)
          have h2 : ((TM.flat (norms u.l)).drop 0).take (u.l.length * szs 25) = TM.flat (norms u.l) := by
            rw [List.drop_zero, show szs 25 = 5 from rfl, ← hcs, List.take_length]
          simp only [freeze, hb, h2, h1]
        · have : u.l.isEmpty = false := by cases hu : u.l with
            | nil => rw [hu] at h0; exact absurd rfl h0
            | cons a r => rfl
          rw [this]
          show AVal.ros (TM.flat (norms u.l)) u.l.length = .ros (TM.flat (norms u.l)) (norms u.l).length
          rw [hlen]
theorem g50 : ∀ t : TM, t.ok → ∀ H : AHeap, DCall Tryz.prog 59 [t.agg] H fun r H' => r = (norm t).agg ∧ H' = H := by
  refine TM.all fun t ih ok H => ?_
  refine DCall.closed (sz := szs) (TM.pures1 t) (Q := fun r H1 => r = (norm t).agg) (Q' := fun r => r = (norm t).agg) ?_ (fun r H1 e => ⟨SizeOf.sizeOf (norm t).agg + 1, (norm t).agg, by rw [e]; exact freeze_pure _ _ (by omega) (by have := TM.pures1 (norm t); simpa [AVal.pures] using this), rfl⟩) H
  obtain ⟨H1, hH1, g1, n1, f1⟩ := psh AHeap.empty (.cells 25 (TM.c5 t))
  obtain ⟨H2, hH2, g2, n2, f2⟩ := psh H1 (.cells 25 [.int .i64 0, .int .i64 0, .flt .f64 0, .str ⟨#[]⟩, .nils])
  have t1 := (f2 _ (by rw [n1]; omega)).trans g1
  have l4 := load_cell t1 (o := 4) (v := t.row) rfl
  refine DCall.of_body (fn := Tryz.f59) (by kernel_rfl) c59 (by kernel_rfl) (by simp [f59]) ?_
  unfold f59
  simp only []
  refine DR.go rfl ?_
  simp -dsimp only [SZ, EZ, astep, aun, AVal.cells, seval, ← hH1, ← hH2]
  refine DR.go rfl ?_
  simp -dsimp only [SZ, EZ, astep, aun, AVal.cells, seval, l4]
  have h68 : DCall Tryz.prog 81 [t.row] H2 fun r H' => r = (TM.of t.l.isEmpty (norms t.l)).row ∧ H' = H2 := g68 (TM.ok_of ok) (fun x hx hxo H => ih x hx hxo H) H2
  refine h68.mono ?_
  rintro r H' ⟨rfl, he⟩
  obtain rfl := he.symm
  have hrow : (TM.of t.l.isEmpty (norms t.l)).row.one = true := by
    have := TM.ones5 (norm t)
    cases t with
    | mk k n f s nl l => cases l <;> rfl
  have s1 : astore H2 1 (.ptr AHeap.empty.next 4) (TM.of t.l.isEmpty (norms t.l)).row = some (H2.set AHeap.empty.next (.cells 25 (TM.c5 (norm t)))) := by
    rw [norm_c5]
    exact astore_one t1 (o := 4) (by simp) hrow
  obtain ⟨H3, hH3, g3, n3, f3⟩ := upd t1 (.cells 25 (TM.c5 (norm t)))
  have l5 := load_all (n := 5) g3 rfl
  have t2 : H3.get H1.next = some (.cells 25 [.int .i64 0, .int .i64 0, .flt .f64 0, .str ⟨#[]⟩, .nils]) := (f3 _ (by rw [n1]; omega)).trans g2
  have s2 : astore H3 5 (.ptr H1.next 0) (.agg (TM.c5 (norm t))) = some (H3.set H1.next (.cells 25 (TM.c5 (norm t)))) := store_all (n := 5) (new := TM.c5 (norm t)) t2 rfl (TM.ones5 _) rfl
  obtain ⟨H4, hH4, g4, n4, f4⟩ := upd t2 (.cells 25 (TM.c5 (norm t)))
  have l6 := load_all (n := 5) g4 rfl
  simp -dsimp only [SZ, EZ, astep, aun, AVal.cells, seval, s1, ← hH3]
  refine DR.go rfl ?_
  simp -dsimp only [SZ, EZ, astep, aun, AVal.cells, seval, l5, s2, ← hH4]
  refine DR.nm rfl ?_
  exact DR.ret ⟨(norm t).agg, by simp only [aresult, ares, Env.get, if_true, Option.bind_eq_bind, Option.bind_some, l6]; rfl, rfl⟩
end Go.Am.Rl

/- The law's Twin: true of terms that are the same but for nil rows. -/
namespace Go.Am.Rl
open Go.Proofs

theorem norm_inv {a b : TM} (h : norm a = norm b) : b.k = a.k ∧ b.n = a.n ∧ b.f = a.f ∧ b.s = a.s ∧ b.l.length = a.l.length ∧ ∀ (i : Nat) x y, a.l[i]? = some x → b.l[i]? = some y → norm x = norm y := by
  cases a with
  | mk k n f s nl l =>
    cases b with
    | mk k' n' f' s' nl' l' =>
      simp only [norm, TM.mk.injEq] at h
      obtain ⟨rfl, rfl, rfl, rfl, _, h⟩ := h
      rw [norms_map, norms_map] at h
      refine ⟨rfl, rfl, rfl, rfl, by show l'.length = l.length; have := congrArg List.length h; simpa using this.symm, fun i x y hx hy => ?_⟩
      have := congrArg (fun l => l[i]?) h
      simp only [List.getElem?_map] at this
      rw [show l[i]? = some x from hx, show l'[i]? = some y from hy] at this
      simpa using this
theorem neq_int (k : IntKind) (n : Int) : abin .neq (.int k n) (.int k n) = some (.bool false) := by simp [abin]
theorem neq_str (s : ByteArray) : abin .neq (.str s) (.str s) = some (.bool false) := by simp [abin]
section
variable {a b : TM} {H : AHeap} {i1 i2 : Nat} {k k' : List AItem} {Q : Env → AHeap → Prop}
theorem loop11 (oa : a.ok) (ob : b.ok) (hlen : b.l.length = a.l.length) (hel : ∀ (i : Nat) x y, a.l[i]? = some x → b.l[i]? = some y → norm x = norm y) (ih : ∀ x ∈ a.l, ∀ y : TM, x.ok → y.ok → norm x = norm y → ∀ H, DCall Tryz.prog 9 [x.agg, y.agg] H fun r H' => r = .bool true ∧ H' = H)
    (g1 : H.get i1 = some (.cells 25 (TM.c5 a))) (g2 : H.get i2 = some (.cells 25 (TM.c5 b))) (hk : aexitTo 0 k = some k') (hend : DR Tryz.prog (kof k9) 62 k' [] H Q) :
    ∀ (e i : Nat), i + e = a.l.length → DR Tryz.prog (kof k9) 62 (.code l9_0 :: .inLoop l9_0 :: k) [(2, .ptr i1 0), (3, .ptr i2 0), (5, .int .i64 (i : Nat))] H Q := by
  intro e
  have l4 := load_cell g1 (o := 4) (v := a.row) rfl
  have m4 := load_cell g2 (o := 4) (v := b.row) rfl
  have hl := TM.lenT oa H
  induction e with
  | zero =>
    intro i hi
    have hc : abin .lss (.int .i64 (i : Nat)) (.int .i64 (a.l.length : Nat)) = some (.bool false) := by simp [abin]; omega
    refine DR.go rfl ?_
    simp -dsimp only [SZ, EZ, astep, aun, AVal.cells, seval, l4, hl, hc]
    refine DR.ne rfl rfl ?_
    refine DR.nm rfl ?_
    refine DR.exit hk ?_
    exact DR.only [] hend
  | succ e ih2 =>
    intro i hi
    have hc : abin .lss (.int .i64 (i : Nat)) (.int .i64 (a.l.length : Nat)) = some (.bool true) := by simp [abin]; omega
    have hlt : i < a.l.length := by omega
    have hx : a.l[i]? = some a.l[i] := List.getElem?_eq_getElem hlt
    have hlt' : i < b.l.length := by omega
    have hy : b.l[i]? = some b.l[i] := List.getElem?_eq_getElem hlt'
    have hxo := TM.ok_at oa hx
    have hyo := TM.ok_at ob hy
    have ra := TM.row_at oa hx H
    have la := TM.load a.l[i] (TM.flat (a.l.drop (i + 1))) H
    have rb := TM.row_at ob hy H
    have lb := TM.load b.l[i] (TM.flat (b.l.drop (i + 1))) H
    have hle := TM.len_le oa
    have hw : IntKind.i64.wrap ((i : Int) + 1) = ((i + 1 : Nat) : Int) := wrap64 (n := i + 1) (by omega)
    refine DR.go rfl ?_
    simp -dsimp only [SZ, EZ, astep, aun, AVal.cells, seval, l4, hl, hc]
    refine DR.ye rfl rfl ?_
    refine DR.nm rfl ?_
    refine DR.draw (by kernel_rfl) d9_6 ?_
    simp -dsimp only [m9_6, SZ, EZ, astep, aun, AVal.cells, seval, DS_nil, DS_cons, seesAll, staysAll, abit, List.getD_cons_zero, List.getD_cons_succ, AOp.quiet, AOp.reads, true_and, and_true, decide_true, decide_false, and_self, l4, m4, ra, la, rb, lb]
    refine (ih _ (List.getElem_mem hlt) _ hxo hyo (hel i _ _ hx hy) H).mono ?_
    rintro r H' ⟨rfl, he⟩
    obtain rfl := he.symm
    simp -dsimp only [SZ, EZ, astep, aun, AVal.cells, seval, DS_nil, DS_cons, seesAll, staysAll, abit, List.getD_cons_zero, List.getD_cons_succ, AOp.quiet, AOp.reads, true_and, and_true, decide_true, decide_false, and_self, l4, m4, ra, la, rb, lb, Bool.not_true]
    refine DR.ne rfl rfl ?_
    refine DR.go rfl ?_
    simp -dsimp only [SZ, EZ, astep, aun, AVal.cells, seval, hw, abin]
    refine DR.nm rfl ?_
    refine DR.inLoop ?_
    exact ih2 (i + 1) (by omega)
end
theorem g11 : ∀ a : TM, ∀ b : TM, a.ok → b.ok → norm a = norm b → ∀ H : AHeap, DCall Tryz.prog 9 [a.agg, b.agg] H fun r H' => r = .bool true ∧ H' = H := by
  refine TM.all fun a ih b oa ob hab H => ?_
  have hp : AVal.pures [a.agg, b.agg] = true := by
    have h1 := TM.pures1 a
    have h2 := TM.pures1 b
    simp only [AVal.pures, Bool.and_true] at h1 h2 ⊢
    rw [h1, h2]; rfl
  refine DCall.closed (sz := szs) hp (Q := fun r H1 => r = .bool true) (Q' := fun r => r = .bool true) ?_ (fun r H1 e => ⟨1, r, by rw [e]; rfl, e⟩) H
  obtain ⟨hk, hn, hf, hs, hlen, hel⟩ := norm_inv hab
  obtain ⟨H1, hH1, g1, n1, f1⟩ := psh AHeap.empty (.cells 25 (TM.c5 a))
  obtain ⟨H2, hH2, g2, n2, f2⟩ := psh H1 (.cells 25 (TM.c5 b))
  have t1 := (f2 _ (by rw [n1]; omega)).trans g1
  have a0 := load_cell t1 (o := 0) (v := .int .i64 a.k) rfl
  have a1 := load_cell t1 (o := 1) (v := .int .i64 a.n) rfl
  have a2 := load_cell t1 (o := 2) (v := .flt .f64 a.f) rfl
  have a3 := load_cell t1 (o := 3) (v := .str a.s) rfl
  have a4 := load_cell t1 (o := 4) (v := a.row) rfl
  have b0 := load_cell g2 (o := 0) (v := .int .i64 b.k) rfl
  have b1 := load_cell g2 (o := 1) (v := .int .i64 b.n) rfl
  have b2 := load_cell g2 (o := 2) (v := .flt .f64 b.f) rfl
  have b3 := load_cell g2 (o := 3) (v := .str b.s) rfl
  have b4 := load_cell g2 (o := 4) (v := b.row) rfl
  rw [hk] at b0; rw [hn] at b1; rw [hf] at b2; rw [hs] at b3
  have hla := TM.lenT oa H2
  have hlb := TM.lenT ob H2
  rw [hlen] at hlb
  have e0 : ∀ f : Nat, aext 0 [.flt .f64 f] = some (.int .u64 f) := fun f => rfl
  have c0 := neq_int .i64 a.k
  have c1 := neq_int .i64 a.n
  have c2 := neq_int .u64 a.f
  have c3 := neq_str a.s
  have c4 := neq_int .i64 (a.l.length : Nat)
  refine DCall.of_body (fn := Tryz.f9) (by kernel_rfl) c9 (by kernel_rfl) (by simp [f9]) ?_
  unfold f9
  simp only []
  refine DR.go rfl ?_
  simp -dsimp only [SZ, EZ, astep, aun, AVal.cells, seval, ← hH1, ← hH2]
  refine DR.nm rfl ?_
  refine DR.draw (by kernel_rfl) d9_1 ?_
  simp -dsimp only [m9_1, SZ, EZ, astep, aun, AVal.cells, seval, DS_nil, DS_cons, seesAll, staysAll, abit, List.getD_cons_zero, List.getD_cons_succ, AOp.quiet, AOp.reads, true_and, and_true, decide_true, decide_false, and_self, a0, a1, a2, a3, a4, b0, b1, b2, b3, b4, hla, hlb, e0, c0, c1, c2, c3, c4]
  refine DR.ne rfl rfl ?_
  refine DR.go rfl ?_
  simp -dsimp only [SZ, EZ, astep, aun, AVal.cells, seval]
  refine DR.nm rfl ?_
  refine DR.loop ?_
  refine loop11 oa ob hlen hel (fun x hx y ox oy h H => ih x hx y ox oy h H) t1 g2 rfl ?_ a.l.length 0 (by omega)
  refine DR.go rfl ?_
  simp -dsimp only [SZ, EZ, astep, aun, AVal.cells, seval]
  refine DR.nm rfl ?_
  exact DR.ret ⟨_, by simp [aresult, ares, Env.get] <;> rfl, rfl⟩
end Go.Am.Rl
