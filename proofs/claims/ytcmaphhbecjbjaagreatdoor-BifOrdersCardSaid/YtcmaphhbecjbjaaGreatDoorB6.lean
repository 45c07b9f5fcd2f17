/- A right term is of a kind: the document's own look at a term. -/
import Derived.Test.YtcmaphhbecjbjaaGreatDoorB5
set_option linter.unusedVariables false
set_option linter.unusedSimpArgs false
set_option maxRecDepth 20000
namespace Go.Am.Rl
open Go.Proofs

theorem TM.lt_of : ∀ {l : List TM} {x : TM}, x ∈ l → SizeOf.sizeOf x < SizeOf.sizeOf l
  | a :: r, x, h => by
    rcases List.mem_cons.mp h with rfl | h
    · simp; omega
    · have := TM.lt_of h
      simp; omega
/-- Of all terms, if of each whose elements it holds of. -/
theorem TM.all {p : TM → Prop} (h : ∀ t : TM, (∀ x ∈ t.l, p x) → p t) : ∀ t, p t := by
  have : ∀ n : Nat, ∀ t : TM, SizeOf.sizeOf t < n → p t := by
    intro n
    induction n with
    | zero => intro t h; omega
    | succ n ih =>
      intro t ht
      refine h t fun x hx => ih x ?_
      cases t with
      | mk k n f s nl l =>
        have := TM.lt_of hx
        simp at ht
        have e : (TM.mk k n f s nl l).l = l := rfl
        rw [e] at this
        omega
  exact fun t => this _ t (Nat.lt_succ_self _)
theorem TM.pures1 (t : TM) : AVal.pures [t.agg] = true := by rw [← TM.agg_eq]; simp [AVal.pures, AVal.pure, TM.pure]
theorem TM.lenT {t : TM} (h : t.ok) (H : AHeap) : alenT H 1 t.row = some t.l.length := by
  cases t with
  | mk k n f s nl l =>
    cases nl with
    | true => rw [show (TM.mk k n f s true l).l = [] from h.2.2.2.2.2.1 rfl]; rfl
    | false => rfl
theorem bcmp (o : BinOp) (k : IntKind) (a b : Int) (h : cmpOp o = true) : ∃ c, abin o (.int k a) (.int k b) = some (.bool c) := isCmp_some (by simp [isCmp, h])

theorem g85 (t : TM) (H : AHeap) : DCall Tryz.prog 100 [t.agg] H fun r H' => (∃ n, r = .int .i64 n) ∧ H' = H := by
  have h : DCall Tryz.prog 100 [t.agg] AHeap.empty fun r H' => ∃ n, r = .int .i64 n ∧ True := by
    cases t with
    | mk k n f s nl l =>
      cases nl with
      | true => exact (runR_sound (e85a k n f s)).mono fun r H' e => by obtain ⟨n, hn⟩ := isI_ex e; exact ⟨n, hn, trivial⟩
      | false => exact (runR_sound (e85b k n f s (TM.flat l) l.length)).mono fun r H' e => by obtain ⟨n, hn⟩ := isI_ex e; exact ⟨n, hn, trivial⟩
  exact (DCall.ints (TM.pures1 t) h H).mono fun r H' ⟨⟨n, h1, _⟩, h2⟩ => ⟨⟨n, h1⟩, h2⟩

section
variable {t : TM} {H : AHeap} {id : Nat} {k k' : List AItem} {Q : Env → AHeap → Prop}
theorem loop52 (ok : t.ok) (ih : ∀ x ∈ t.l, x.ok → ∀ d m H, DCall Tryz.prog 62 [x.agg, .int .i64 d, .int .i64 m] H fun r H' => (∃ n, r = .int .i64 n) ∧ H' = H)
    (g : H.get id = some (.cells 25 [.int .i64 t.k, .int .i64 t.n, .flt .f64 t.f, .str t.s, t.row])) (d m : Int) (hk : aexitTo 0 k = some k') (hend : ∀ c : Int, DR Tryz.prog (kof k62) 44 k' [(7, .int .i64 c)] H Q) (hret : ∀ T, T.get 6 = some (.int .i64 (-1)) → Q T H) :
    ∀ (e i : Nat) (c : Int), i + e = t.l.length → DR Tryz.prog (kof k62) 44 (.code l62_0 :: .inLoop l62_0 :: k) [(1, .int .i64 d), (2, .int .i64 m), (3, .ptr id 0), (7, .int .i64 c), (8, .int .i64 (i : Nat))] H Q := by
  intro e
  have l4 := load_cell g (o := 4) (v := t.row) rfl
  have hl := TM.lenT ok H
  induction e with
  | zero =>
    intro i c hi
    have hc : decide ((i : Int) < (t.l.length : Int)) = false := by simp; omega
    refine DR.go rfl ?_
    simp -dsimp only [SZ, EZ, astep, aun, AVal.cells, seval, l4, hl, hc, abin]
    refine DR.ne rfl rfl ?_
    refine DR.nm rfl ?_
    refine DR.exit hk ?_
    exact DR.only [7] (hend c)
  | succ e ih2 =>
    intro i c hi
    have hc : decide ((i : Int) < (t.l.length : Int)) = true := by simp; omega
    have hlt : i < t.l.length := by omega
    have hx : t.l[i]? = some t.l[i] := List.getElem?_eq_getElem hlt
    have hxo := TM.ok_at ok hx
    have ra := TM.row_at ok hx H
    have la := TM.load t.l[i] (TM.flat (t.l.drop (i + 1))) H
    have hle := TM.len_le ok
    have hw : IntKind.i64.wrap ((i : Int) + 1) = ((i + 1 : Nat) : Int) := wrap64 (n := i + 1) (by omega)
    refine DR.go rfl ?_
    simp -dsimp only [SZ, EZ, astep, aun, AVal.cells, seval, l4, hl, hc, abin]
    refine DR.ye rfl rfl ?_
    refine DR.go rfl ?_
    simp -dsimp only [SZ, EZ, astep, aun, AVal.cells, seval, l4, ra, la, abin]
    refine (ih _ (List.getElem_mem hlt) hxo _ _ H).mono ?_
    rintro r H' ⟨⟨n, rfl⟩, rfl⟩
    simp -dsimp only [SZ, EZ, astep, aun, AVal.cells, seval]
    obtain ⟨b, hb⟩ := bcmp .lss .i64 n 0 rfl
    refine DR.go rfl ?_
    simp -dsimp only [SZ, EZ, astep, aun, AVal.cells, seval, hb]
    cases b with
    | true =>
      refine DR.ye rfl rfl ?_
      refine DR.go rfl ?_
      simp -dsimp only [SZ, EZ, astep, aun, AVal.cells, seval]
      refine DR.nm rfl ?_
      exact DR.ret (hret _ rfl)
    | false =>
      refine DR.ne rfl rfl ?_
      refine DR.go rfl ?_
      simp -dsimp only [SZ, EZ, astep, aun, AVal.cells, seval, abin]
      refine DR.go rfl ?_
      simp -dsimp only [SZ, EZ, astep, aun, AVal.cells, seval, hw, abin]
      refine DR.nm rfl ?_
      refine DR.inLoop ?_
      exact ih2 (i + 1) _ (by omega)
end
end Go.Am.Rl

