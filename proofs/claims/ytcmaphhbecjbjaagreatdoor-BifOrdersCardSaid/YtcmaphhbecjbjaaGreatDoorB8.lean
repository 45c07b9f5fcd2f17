/- The law's 'right': few, and right; then each is of a kind. -/
import Derived.Test.YtcmaphhbecjbjaaGreatDoorB7
set_option linter.unusedVariables false
set_option linter.unusedSimpArgs false
set_option maxRecDepth 20000
namespace Go.Am.Rl
open Go.Proofs

/-- Terms as the elements of one. -/
abbrev TM.of (nl : Bool) (l : List TM) : TM := .mk 0 0 0 ⟨#[]⟩ nl l
section
variable {u : TM} {H : AHeap} {k k' : List AItem} {Q : Env → AHeap → Prop}
theorem loop8 (ok : u.ok) (hk : aexitTo 0 k = some k') (hend : (∀ x ∈ u.l, TM.kind x) → DR Tryz.prog (kof k7) 25 k' [] H Q) (hret : ∀ T, T.get 2 = some (.bool false) → Q T H) :
    ∀ (e i : Nat), i + e = u.l.length → (∀ x ∈ u.l.take i, TM.kind x) → DR Tryz.prog (kof k7) 25 (.code l7_0 :: .inLoop l7_0 :: k) [(0, u.row), (3, .int .i64 (i : Nat))] H Q := by
  intro e
  have hl := TM.lenT ok H
  induction e with
  | zero =>
    intro i hi hall
    have hc : abin .lss (.int .i64 (i : Nat)) (.int .i64 (u.l.length : Nat)) = some (.bool false) := by simp [abin]; omega
    refine DR.go rfl ?_
    simp -dsimp only [SZ, EZ, astep, aun, AVal.cells, seval, hl, hc]
    refine DR.ne rfl rfl ?_
    refine DR.nm rfl ?_
    refine DR.exit hk ?_
    exact DR.only [] (hend (by rw [List.take_of_length_le (by omega)] at hall; exact hall))
  | succ e ih2 =>
    intro i hi hall
    have hc : abin .lss (.int .i64 (i : Nat)) (.int .i64 (u.l.length : Nat)) = some (.bool true) := by simp [abin]; omega
    have hlt : i < u.l.length := by omega
    have hx : u.l[i]? = some u.l[i] := List.getElem?_eq_getElem hlt
    have hxo := TM.ok_at ok hx
    have ra := TM.row_at ok hx H
    have la := TM.load u.l[i] (TM.flat (u.l.drop (i + 1))) H
    have hle := TM.len_le ok
    have hw : IntKind.i64.wrap ((i : Int) + 1) = ((i + 1 : Nat) : Int) := wrap64 (n := i + 1) (by omega)
    refine DR.go rfl ?_
    simp -dsimp only [SZ, EZ, astep, aun, AVal.cells, seval, hl, hc]
    refine DR.ye rfl rfl ?_
    refine DR.go rfl ?_
    simp -dsimp only [SZ, EZ, astep, aun, AVal.cells, seval, ra, la, abin]
    refine (g18 _ hxo H).mono ?_
    rintro r H' ⟨⟨b, rfl, hb⟩, rfl⟩
    simp -dsimp only [SZ, EZ, astep, aun, AVal.cells, seval]
    cases b with
    | false =>
      refine DR.ye rfl rfl ?_
      refine DR.go rfl ?_
      simp -dsimp only [SZ, EZ, astep, aun, AVal.cells, seval]
      refine DR.nm rfl ?_
      exact DR.ret (hret _ rfl)
    | true =>
      refine DR.ne rfl rfl ?_
      refine DR.go rfl ?_
      simp -dsimp only [SZ, EZ, astep, aun, AVal.cells, seval, hw, abin]
      refine DR.nm rfl ?_
      refine DR.inLoop ?_
      refine ih2 (i + 1) (by omega) fun x hx' => ?_
      rw [List.take_add_one, hx] at hx'
      rcases List.mem_append.mp hx' with h | h
      · exact hall x h
      · simp at h; subst h; exact hb rfl
end
theorem TM.purer {u : TM} : AVal.pures [u.row] = true := by
  have := TM.pure u
  rw [TM.cells_eq] at this
  simp only [AVal.pures, AVal.pure, Bool.true_and, Bool.and_true] at this ⊢
  exact this
theorem g8 (nl : Bool) (l : List TM) (ok : (TM.of nl l).ok) : DCall Tryz.prog 7 [(TM.of nl l).row] AHeap.empty fun r H' => ∃ b, r = .bool b ∧ (b = true → ∀ x ∈ l, TM.kind x) := by
  have hl := TM.lenT ok AHeap.empty
  obtain ⟨b, hb⟩ := bcmp .gtr .i64 (((TM.of nl l).l.length : Nat) : Int) 5 rfl
  have hcl : (TM.of nl l).row.cells = [(TM.of nl l).row] := by cases nl <;> rfl
  have hz : AVal.agg [.int .i64 0, .int .i64 0, .flt .f64 0, .str ⟨#[]⟩, (TM.of nl l).row] = (TM.of nl l).agg := rfl
  refine DCall.of_body (fn := Tryz.f7) (by kernel_rfl) c7 (by kernel_rfl) (by simp [f7]) ?_
  unfold f7
  simp only []
  refine DR.go rfl ?_
  simp -dsimp only [SZ, EZ, astep, aun, AVal.cells, seval]
  cases b with
  | true =>
    refine DR.go rfl ?_
    simp -dsimp only [SZ, EZ, astep, aun, AVal.cells, seval, hl, hb]
    refine DR.ye rfl rfl ?_
    refine DR.go rfl ?_
    simp -dsimp only [SZ, EZ, astep, aun, AVal.cells, seval]
    refine DR.nm rfl ?_
    exact DR.ret ⟨_, by simp [aresult, ares, Env.get] <;> rfl, ⟨_, rfl, fun h => by cases h⟩⟩
  | false =>
    refine DR.go rfl ?_
    simp -dsimp only [SZ, EZ, astep, aun, seval, hl, hb, hcl, Env.parts, afill, LZ, aput, List.length_cons, List.length_nil, List.drop_succ_cons, List.drop_zero, List.drop_nil, List.append_nil, List.cons_append, List.nil_append, List.take_succ_cons, List.take_zero]
    rw [hz]
    refine (g17 _ ok _ _ AHeap.empty).mono ?_
    rintro r H' ⟨⟨n, rfl⟩, rfl⟩
    obtain ⟨b2, hb2⟩ := bcmp .lss .i64 n 0 rfl
    simp -dsimp only [SZ, EZ, astep, aun, AVal.cells, seval, hb2]
    cases b2 with
    | true =>
      refine DR.ye rfl rfl ?_
      refine DR.go rfl ?_
      simp -dsimp only [SZ, EZ, astep, aun, AVal.cells, seval]
      refine DR.nm rfl ?_
      exact DR.ret ⟨_, by simp [aresult, ares, Env.get] <;> rfl, ⟨_, rfl, fun h => by cases h⟩⟩
    | false =>
      refine DR.ne rfl rfl ?_
      refine DR.go rfl ?_
      simp -dsimp only [SZ, EZ, astep, aun, AVal.cells, seval]
      refine DR.nm rfl ?_
      refine DR.loop ?_
      refine loop8 ok rfl (fun hall => ?_) (fun T hT => ⟨_, by simp [aresult, ares, hT] <;> rfl, _, rfl, fun h => by cases h⟩) (TM.of nl l).l.length 0 (by omega) (by simp)
      refine DR.go rfl ?_
      simp -dsimp only [SZ, EZ, astep, aun, AVal.cells, seval]
      refine DR.nm rfl ?_
      exact DR.ret ⟨_, by simp [aresult, ares, Env.get] <;> rfl, ⟨_, rfl, fun _ => hall⟩⟩
end Go.Am.Rl

