/- Regions whose order is drawn, in bodies that may panic: how they are proved. -/
import Derived.Test.YtilfjbbfabcdlaaGreatDoorAm39
set_option linter.unusedVariables false
set_option linter.unusedSimpArgs false
namespace Go.Am
open Go.RowKit

/-- Behind the operation 'p' that panics: what another order may have run ahead of it, runs. -/
def RB (ms : List Nat) (p : Nat) : Nat → List AOper → (hs : List (Nat × AHeap)) → Frz hs → Env → AHeap → Prop
  | _, [], _, _, _, _ => True
  | i, o :: r, hs, y, T, H => onB (abit (ms.getD i 0) p) (RB ms p (i + 1) r hs y (T.put o.dst aundef) H)
      (onB o.op.quiet (onW (wantedA T o.guard) (RB ms p (i + 1) r hs y (T.put o.dst aundef) H)
        (onX (astep o.op T H) (fun v H' => onB o.op.reads (seesAll (ms.getD i 0) o.op T v hs ∧ RB ms p (i + 1) r hs y (T.put o.dst v) H) (RB ms p (i + 1) r hs y (T.put o.dst v) H) .mk .mk) (fun _ _ => False) (fun _ => False) (fun _ _ => False) .mk .mk .mk .mk) .mk .mk) False .mk .mk) .mk .mk
def DSX (P : Program) (ms : List Nat) : Nat → List AOper → (hs : List (Nat × AHeap)) → Frz hs → (rs : List Seen) → Frz rs → Env → AHeap → (K : Env → AHeap → Prop) → Frz K → (R : AVal → AHeap → Prop) → Frz R → Prop
  | _, [], _, _, _, _, T, H, K, _, _, _ => K T H
  | i, o :: r, hs, y1, rs, y2, T, H, K, z, R, y =>
    onW (wantedA T o.guard) (DSX P ms (i + 1) r hs y1 rs y2 (T.put o.dst aundef) H K z R y) (onX (astep o.op T H)
      (fun v H' => onB o.op.quiet (onB o.op.reads (seesAll (ms.getD i 0) o.op T v hs ∧ DSX P ms (i + 1) r hs y1 (⟨i, o.op, T, v⟩ :: rs) .mk (T.put o.dst v) H K z R y) (DSX P ms (i + 1) r hs y1 rs y2 (T.put o.dst v) H K z R y) .mk .mk)
        (staysAll (ms.getD i 0) H' rs ∧ DSX P ms (i + 1) r ((i, H) :: hs) .mk rs y2 (T.put o.dst v) H' K z R y) .mk .mk)
      (fun f as => DCX P f as H (fun v H' => staysAll (ms.getD i 0) H' rs ∧ DSX P ms (i + 1) r ((i, H) :: hs) .mk rs y2 (T.put o.dst v) H' K z R y) .mk (fun v H' => R v H' ∧ RB ms i (i + 1) r hs y1 (T.put o.dst aundef) H) .mk)
      (fun _ => False) (fun _ _ => False) .mk .mk .mk .mk) .mk .mk

theorem DetX.det {P : Program} {f : FuncId} {as : List AVal} {H : AHeap} {v : AVal} {H' : AHeap} (h : DetX P f as H (.ret v) H') : Det P f as H v H' := by
  refine ⟨h.1, fun w ro μ argv hg ha => (h.2 w ro μ argv hg ha).mono fun e w' ⟨o, H1, ro', μ', ⟨h1, h2⟩, h3, h4, h5⟩ => ?_⟩
  subst h1; subst h2
  obtain ⟨u, h6, h7⟩ := h3
  exact ⟨u, v, H1, ro', μ', h6, ⟨rfl, rfl⟩, h7, h4, h5⟩

/-- The line up to some place behind 'p'. -/
structure HalfB (P : Program) (ms : List Nat) (l : List AOper) (st : Nat → Env × AHeap) (p m : Nat) (hs : List (Nat × AHeap)) : Prop where
  lt : p < m
  step : ∀ i o, i < m → l[i]? = some o → i ≠ p → (ms.getD i 0).testBit p = false → StepD P o (st i).1 (st i).2 (st (i + 1)).1 (st (i + 1)).2
  dead : ∀ i o, i < m → l[i]? = some o → (i = p ∨ (ms.getD i 0).testBit p = true) → st (i + 1) = ((st i).1.put o.dst aundef, (st i).2)
  late : ∀ (j e : Nat) q o v, j < e → e < m → e ≠ p → (ms.getD e 0).testBit p = false → l[j]? = some q → l[e]? = some o → j ≠ p → (ms.getD j 0).testBit p = false → q.op.quiet = true → q.op.reads = true → wantedA (st j).1 q.guard = some true → astep q.op (st j).1 (st j).2 = some (.value v (st j).2) →
    o.op.quiet = false → wantedA (st e).1 o.guard = some true → (ms.getD e 0).testBit j = true ∨ astep q.op (st j).1 (st (e + 1)).2 = some (.value v (st (e + 1)).2)
  soon : ∀ (j e : Nat) q o v, e < j → j < m → e ≠ p → (ms.getD e 0).testBit p = false → l[j]? = some q → l[e]? = some o → j ≠ p → (ms.getD j 0).testBit p = false → q.op.quiet = true → q.op.reads = true → wantedA (st j).1 q.guard = some true → astep q.op (st j).1 (st j).2 = some (.value v (st j).2) →
    o.op.quiet = false → wantedA (st e).1 o.guard = some true → (ms.getD j 0).testBit e = true ∨ astep q.op (st j).1 (st e).2 = some (.value v (st e).2)
  hs : ∀ e o, e < m → e ≠ p → (ms.getD e 0).testBit p = false → l[e]? = some o → o.op.quiet = false → wantedA (st e).1 o.guard = some true → (e, (st e).2) ∈ hs

section
variable {P : Program} {ms : List Nat} {l : List AOper} {p : Nat} {hs : List (Nat × AHeap)}
theorem HalfB.snoc {st : Nat → Env × AHeap} {i : Nat} (h : HalfB P ms l st p i hs) {o : AOper} (ho : l[i]? = some o) {T T1 : Env} {H : AHeap} (hst : st i = (T, H))
    (hd : (ms.getD i 0).testBit p = true → T1 = T.put o.dst aundef)
    (ha : (ms.getD i 0).testBit p = false → o.op.quiet = true ∧ StepD P o T H T1 H ∧ ∀ v, o.op.reads = true → wantedA T o.guard = some true → astep o.op T H = some (.value v H) → ∀ q ∈ hs, (ms.getD i 0).testBit q.1 = true ∨ astep o.op T q.2 = some (.value v q.2)) :
    HalfB P ms l (fun j => if j ≤ i then st j else (T1, H)) p (i + 1) hs := by
  have e0 : ∀ j, j ≤ i → (if j ≤ i then st j else (T1, H)) = st j := fun j hj => if_pos hj
  have e1 : (if i + 1 ≤ i then st (i + 1) else (T1, H)) = (T1, H) := if_neg (by omega)
  have hT : (st i).1 = T := by rw [hst]
  have hH : (st i).2 = H := by rw [hst]
  have hpi := h.lt
  refine ⟨by omega, fun j x hj hx hjp hjb => ?_, fun j x hj hx hdd => ?_, fun j e q x v a1 a2 a3 a4 a5 a6 a7 a8 a9 a10 a11 a12 a13 a14 => ?_, fun j e q x v a1 a2 a3 a4 a5 a6 a7 a8 a9 a10 a11 a12 a13 a14 => ?_, fun e x a1 a2 a3 a4 a5 a6 => ?_⟩
  · rcases Nat.lt_or_ge j i with hji | hji
    · rw [e0 j (by omega), e0 (j + 1) (by omega)]; exact h.step j x hji hx hjp hjb
    · obtain rfl : j = i := by omega
      rw [ho] at hx; cases hx
      simp only [Nat.le_refl, if_true, e1, hT, hH]
      exact (ha hjb).2.1
  · rcases Nat.lt_or_ge j i with hji | hji
    · rw [e0 j (by omega), e0 (j + 1) (by omega)]; exact h.dead j x hji hx hdd
    · obtain rfl : j = i := by omega
      rw [ho] at hx; cases hx
      have hb := hdd.resolve_left (by omega)
      show (if j + 1 ≤ j then st (j + 1) else (T1, H)) = _
      rw [e1, e0 j (Nat.le_refl _), hT, hH, hd hb]
  · rcases Nat.lt_or_ge e i with hei | hei
    · rw [e0 j (by omega), e0 e (by omega)] at *
      rw [e0 (e + 1) (by omega)]
      exact h.late j e q x v a1 hei a3 a4 a5 a6 a7 a8 a9 a10 a11 a12 a13 a14
    · obtain rfl : e = i := by omega
      rw [ho] at a6; cases a6
      rw [(ha a4).1] at a13; cases a13
  · rcases Nat.lt_or_ge j i with hji | hji
    · rw [e0 j (by omega), e0 e (by omega)] at *
      exact h.soon j e q x v a1 hji a3 a4 a5 a6 a7 a8 a9 a10 a11 a12 a13 a14
    · obtain rfl : j = i := by omega
      rw [ho] at a5; cases a5
      simp only [Nat.le_refl, if_true, hT, hH] at a11 a12 ⊢
      rw [e0 e (by omega)] at a14 ⊢
      have hm := h.hs e x a1 a3 a4 a6 a13 a14
      exact (ha a8).2.2 v a10 a11 a12 _ hm
  · rcases Nat.lt_or_ge e i with hei | hei
    · rw [e0 e (by omega)] at a6 ⊢
      exact h.hs e x hei a2 a3 a4 a5 a6
    · obtain rfl : e = i := by omega
      rw [ho] at a4; cases a4
      rw [(ha a3).1] at a5; cases a5
theorem HalfB.fill : ∀ (r : List AOper) (i : Nat) (y : Frz hs) (T : Env) (H : AHeap), l.drop i = r → i ≤ l.length → RB ms p i r hs y T H → ∀ st, HalfB P ms l st p i hs → st i = (T, H) →
    ∃ st', LineB P ms l st' p ∧ ∀ j, j ≤ i → st' j = st j
  | [], i, y, T, H, hd, hi, hr, st, h, hst => by
    have hlen : l.length ≤ i := List.drop_eq_nil_iff.mp hd
    obtain rfl : i = l.length := by omega
    exact ⟨st, ⟨h.step, h.dead, h.late, h.soon⟩, fun j hj => rfl⟩
  | o :: r, i, y, T, H, hd, hi, hr, st, h, hst => by
    have hlt : i < l.length := by
      rcases Nat.lt_or_ge i l.length with h | h
      · exact h
      · rw [List.drop_eq_nil_of_le h] at hd; cases hd
    have hcons := List.drop_eq_getElem_cons hlt
    rw [hd] at hcons
    obtain ⟨e1, e2⟩ := List.cons.inj hcons
    have ho : l[i]? = some o := by rw [List.getElem?_eq_getElem hlt, e1]
    have go : ∀ {T1 : Env}, HalfB P ms l (fun j => if j ≤ i then st j else (T1, H)) p (i + 1) hs → RB ms p (i + 1) r hs y T1 H → ∃ st', LineB P ms l st' p ∧ ∀ j, j ≤ i → st' j = st j := by
      intro T1 h1 h2
      obtain ⟨st', d1, d2⟩ := HalfB.fill r (i + 1) y T1 H e2.symm (by omega) h2 _ h1 (if_neg (by omega))
      exact ⟨st', d1, fun j hj => (d2 j (by omega)).trans (if_pos hj)⟩
    simp only [RB] at hr
    rw [abit_eq] at hr
    cases hb : (ms.getD i 0).testBit p with
    | true =>
      rw [hb] at hr
      simp only [onB] at hr
      exact go (h.snoc ho hst (fun _ => rfl) (fun h => absurd (hb.symm.trans h) (by simp))) hr
    | false =>
      rw [hb] at hr
      simp only [onB] at hr
      cases hq : o.op.quiet with
      | false => rw [hq] at hr; exact hr.elim
      | true =>
        rw [hq] at hr
        simp only at hr
        cases hw : wantedA T o.guard with
        | none => rw [hw] at hr; exact hr.elim
        | some b =>
          rw [hw] at hr
          cases b with
          | false => exact go (h.snoc ho hst (fun h => absurd (hb.symm.trans h) (by simp)) fun _ => ⟨hq, by simp [StepD, hw], fun v _ h => by rw [hw] at h; cases h⟩) hr
          | true =>
            simp only [onW] at hr
            cases hs1 : astep o.op T H with
            | none => rw [hs1] at hr; exact hr.elim
            | some x =>
              rw [hs1] at hr
              obtain ⟨v, rfl⟩ := astep_quiet hq hs1
              simp only [onX] at hr
              cases hre : o.op.reads with
              | false =>
                rw [hre] at hr
                exact go (h.snoc ho hst (fun h => absurd (hb.symm.trans h) (by simp)) fun _ => ⟨hq, by simp [StepD, hw, hs1], fun v h => by rw [hre] at h; cases h⟩) hr
              | true =>
                rw [hre] at hr
                obtain ⟨k1, k2⟩ := hr
                refine go (h.snoc ho hst (fun h => absurd (hb.symm.trans h) (by simp)) fun _ => ⟨hq, by simp [StepD, hw, hs1], fun u _ _ hu => ?_⟩) k2
                rw [hs1] at hu; cases hu
                intro q hq
                rw [← abit_eq]
                exact seesAll_iff k1 q hq
end

theorem DSX.line {P : Program} {ms : List Nat} {l : List AOper} (hk : okDraw l ms = true) {K : Env → AHeap → Prop} {R : AVal → AHeap → Prop} : ∀ (r : List AOper) (i : Nat) (hs : List (Nat × AHeap)) (y1 : Frz hs) (rs : List Seen) (y2 : Frz rs) (T : Env) (H : AHeap) (z : Frz K) (y : Frz R), l.drop i = r → i ≤ l.length → DSX P ms i r hs y1 rs y2 T H K z R y →
    ∀ st, Line P ms l st i → Acc l st i hs rs → st i = (T, H) →
    (∃ st', Line P ms l st' l.length ∧ K (st' l.length).1 (st' l.length).2 ∧ (∀ j, j ≤ i → st' j = st j)) ∨
    ∃ st' p op v H', LineB P ms l st' p ∧ l[p]? = some op ∧ Pans P op (st' p).1 (st' p).2 (fun a b => a = v ∧ b = H') ∧ R v H' ∧ ∀ j, j ≤ i → st' j = st j
  | [], i, hs, y1, rs, y2, T, H, z, y, hd, hi, hr, st, hl, ha, hst => by
    have hlen : l.length ≤ i := List.drop_eq_nil_iff.mp hd
    obtain rfl : i = l.length := by omega
    refine .inl ⟨st, hl, ?_, fun j hj => rfl⟩
    rw [hst]; exact hr
  | o :: r, i, hs, y1, rs, y2, T, H, z, y, hd, hi, hr, st, hl, ha, hst => by
    have hlt : i < l.length := by
      rcases Nat.lt_or_ge i l.length with h | h
      · exact h
      · rw [List.drop_eq_nil_of_le h] at hd; cases hd
    have hcons := List.drop_eq_getElem_cons hlt
    rw [hd] at hcons
    obtain ⟨e1, e2⟩ := List.cons.inj hcons
    have ho : l[i]? = some o := by rw [List.getElem?_eq_getElem hlt, e1]
    have go : ∀ {T1 : Env} {H1 : AHeap} {hs' : List (Nat × AHeap)} {rs' : List Seen} {y1' : Frz hs'} {y2' : Frz rs'}, StepD P o T H T1 H1 → (∀ x ∈ hs, x ∈ hs') → (∀ x ∈ rs, x ∈ rs') →
        (o.op.quiet = false → wantedA T o.guard = some true → (i, H) ∈ hs' ∧ ∀ q ∈ rs, (ms.getD i 0).testBit q.at_ = true ∨ astep q.op q.env H1 = some (.value q.val H1)) →
        (∀ v, o.op.quiet = true → o.op.reads = true → wantedA T o.guard = some true → astep o.op T H = some (.value v H) → (⟨i, o.op, T, v⟩ : Seen) ∈ rs' ∧ ∀ p ∈ hs, (ms.getD i 0).testBit p.1 = true ∨ astep o.op T p.2 = some (.value v p.2)) →
        DSX P ms (i + 1) r hs' y1' rs' y2' T1 H1 K z R y →
        (∃ st', Line P ms l st' l.length ∧ K (st' l.length).1 (st' l.length).2 ∧ (∀ j, j ≤ i → st' j = st j)) ∨
        ∃ st' p op v H', LineB P ms l st' p ∧ l[p]? = some op ∧ Pans P op (st' p).1 (st' p).2 (fun a b => a = v ∧ b = H') ∧ R v H' ∧ ∀ j, j ≤ i → st' j = st j := by
      intro T1 H1 hs' rs' y1' y2' b1 b2 b3 b4 b5 b6
      obtain ⟨c1, c2⟩ := snoc ho hl ha hst b1 b2 b3 b4 b5
      rcases DSX.line hk r (i + 1) hs' y1' rs' y2' T1 H1 z y e2.symm (by omega) b6 _ c1 c2 (if_neg (by omega)) with ⟨st', d1, d2, d3⟩ | ⟨st', p, op, v, H', d1, d2, d3, d4, d5⟩
      · exact .inl ⟨st', d1, d2, fun j hj => (d3 j (by omega)).trans (if_pos hj)⟩
      · exact .inr ⟨st', p, op, v, H', d1, d2, d3, d4, fun j hj => (d5 j (by omega)).trans (if_pos hj)⟩
    have sees : ∀ {v : AVal}, seesAll (ms.getD i 0) o.op T v hs → ∀ p ∈ hs, (ms.getD i 0).testBit p.1 = true ∨ astep o.op T p.2 = some (.value v p.2) := fun h p hp => by rw [← abit_eq]; exact seesAll_iff h p hp
    have stays : ∀ {H1 : AHeap}, staysAll (ms.getD i 0) H1 rs → ∀ q ∈ rs, (ms.getD i 0).testBit q.at_ = true ∨ astep q.op q.env H1 = some (.value q.val H1) := fun h q hq => by rw [← abit_eq]; exact staysAll_iff h q hq
    simp only [DSX] at hr
    cases hw : wantedA T o.guard with
    | none => rw [hw] at hr; exact hr.elim
    | some b =>
      rw [hw] at hr
      cases b with
      | false => exact go (by simp [StepD, hw]) (fun _ h => h) (fun _ h => h) (fun _ h => by rw [hw] at h; cases h) (fun _ _ _ h => by rw [hw] at h; cases h) hr
      | true =>
        simp only [onW] at hr
        cases hs1 : astep o.op T H with
        | none => rw [hs1] at hr; exact hr.elim
        | some nx =>
          rw [hs1] at hr
          cases nx with
          | anyOf _ => exact hr.elim
          | pan _ => exact hr.elim
          | dfr _ _ => exact hr.elim
          | value v H1 =>
            simp only [onX] at hr
            have hstep : StepD P o T H (T.put o.dst v) H1 := by simp [StepD, hw, hs1]
            cases hq : o.op.quiet with
            | true =>
              obtain ⟨v', hv'⟩ := astep_quiet hq hs1
              cases hv'
              rw [hq] at hr
              simp only [onB] at hr
              cases hre : o.op.reads with
              | true =>
                rw [hre] at hr
                simp only at hr
                exact go hstep (fun _ h => h) (fun _ h => List.mem_cons_of_mem _ h) (fun h => by rw [hq] at h; cases h) (fun u _ _ _ hu => by rw [hs1] at hu; cases hu; exact ⟨List.mem_cons_self, sees hr.1⟩) hr.2
              | false =>
                rw [hre] at hr
                simp only at hr
                exact go hstep (fun _ h => h) (fun _ h => h) (fun h => by rw [hq] at h; cases h) (fun u _ h => by rw [hre] at h; cases h) hr
            | false =>
              rw [hq] at hr
              simp only [onB] at hr
              exact go hstep (fun _ h => List.mem_cons_of_mem _ h) (fun _ h => h) (fun _ _ => ⟨List.mem_cons_self, stays hr.1⟩) (fun u h => by rw [hq] at h; cases h) hr.2
          | enter f as =>
            simp only [onX] at hr
            obtain ⟨x, H1, hx, hdet⟩ := hr
            have hq := enter_quiet hs1
            cases x with
            | ret v =>
              obtain ⟨hsee, hr⟩ := hx
              exact go (by simp only [StepD, hw, hs1]; exact ⟨v, hdet.det, rfl⟩) (fun _ h => List.mem_cons_of_mem _ h) (fun _ h => h) (fun _ _ => ⟨List.mem_cons_self, stays hsee⟩) (fun u h => by rw [hq] at h; cases h) hr
            | pan v =>
              obtain ⟨hR, hB⟩ := hx
              have hbit : ∀ j, j ≤ i → (ms.getD j 0).testBit i = false := by
                intro j hj
                cases hb : (ms.getD j 0).testBit i with
                | false => rfl
                | true =>
                  have := bit_lt hk (List.getElem?_eq_getElem (show j < l.length by omega)) hb
                  omega
              have e0 : ∀ j, j ≤ i → (if j ≤ i then st j else (T.put o.dst aundef, H)) = st j := fun j hj => if_pos hj
              have hpart : HalfB P ms l (fun j => if j ≤ i then st j else (T.put o.dst aundef, H)) i (i + 1) hs := by
                refine ⟨Nat.lt_succ_self _, fun j x hj hx hjp hjb => ?_, fun j x hj hx hdd => ?_, fun j e q x v a1 a2 a3 a4 a5 a6 a7 a8 a9 a10 a11 a12 a13 a14 => ?_, fun j e q x v a1 a2 a3 a4 a5 a6 a7 a8 a9 a10 a11 a12 a13 a14 => ?_, fun e x a1 a2 a3 a4 a5 a6 => ?_⟩
                · rw [e0 j (by omega), e0 (j + 1) (by omega)]; exact hl.step j x (by omega) hx
                · have hji : j = i := by
                    rcases hdd with h | h
                    · exact h
                    · rw [hbit j (by omega)] at h; cases h
                  subst hji
                  rw [ho] at hx; cases hx
                  rw [e0 j (Nat.le_refl _), if_neg (by omega), hst]
                · rw [e0 j (by omega), e0 e (by omega)] at *
                  rw [e0 (e + 1) (by omega)]
                  exact hl.late j e q x v a1 (by omega) a5 a6 a9 a10 a11 a12 a13 a14
                · rw [e0 j (by omega), e0 e (by omega)] at *
                  exact hl.soon j e q x v a1 (by omega) a5 a6 a9 a10 a11 a12 a13 a14
                · rw [e0 e (by omega)] at a6 ⊢
                  exact ha.hs e x (by omega) a4 a5 a6
              obtain ⟨st', d1, d2⟩ := hpart.fill r (i + 1) y1 _ H e2.symm (by omega) hB _ (if_neg (by omega))
              have di : st' i = (T, H) := by rw [d2 i (by omega), e0 i (Nat.le_refl _), hst]
              refine .inr ⟨st', i, o, v, H1, d1, ho, ?_, hR, fun j hj => by rw [d2 j (by omega), e0 j hj]⟩
              rw [di]
              exact ⟨hw, f, as, hs1, hdet.1, hdet.2.mono fun a b ⟨e1, e2⟩ => ⟨v, e1, rfl, e2⟩⟩

section
variable {P : Program} {ks : Keeps} {nt : Nat} {k : List AItem} {ds : List ADef} {T : Env} {H : AHeap} {Q : AEnd → List ADef → Env → AHeap → Prop}
theorem DRX.draw {l : List AOper} {kl : List Nat} {ms : List Nat} (hm : P.follows .mixedOrders = true) (hk : okDraw l ms = true) (h : DSX P ms 0 l [] .mk [] .mk T H (fun T' H' => AtX P ks nt k ds (T'.keep kl) H' Q .mk .mk) .mk (fun v H' => Q (.pan v) ds [] H') .mk) : DRX P ks nt (.code (.region true l kl) :: k) ds T H Q := by
  rcases DSX.line hk l 0 [] .mk [] .mk T H .mk .mk rfl (Nat.zero_le _) h (fun _ => (T, H)) ⟨fun i o hi => by omega, fun j e q o v h1 h2 => by omega, fun j e q o v h1 h2 => by omega⟩ ⟨fun e o hi => by omega, fun j q v hi => by omega⟩ rfl with ⟨st, hl, ⟨e, d, T', H', q, r⟩, h0⟩ | ⟨st, p, op, v, H', hl, hop, hpan, hR, h0⟩
  · exact ⟨e, d, T', H', q, RunsX.ofLine hm hk hl (h0 0 (Nat.le_refl _)) r⟩
  · exact ⟨.pan v, ds, [], H', hR, RunsX.ofLineB hm hk hl hop hpan (h0 0 (Nat.le_refl _)) fun a b ⟨e1, e2⟩ => by subst e1; subst e2; exact ⟨rfl, rfl, rfl, rfl⟩⟩
end
theorem YZ :
    (∀ ms p i (hs : List (Nat × AHeap)) (y : Frz hs) T H, RB ms p i [] hs y T H = True) ∧
    (∀ ms p i d op g af r (hs : List (Nat × AHeap)) (y : Frz hs) T H, RB ms p i (⟨d, op, g, af⟩ :: r) hs y T H = onB (abit (ms.getD i 0) p) (RB ms p (i + 1) r hs y (T.put d aundef) H)
      (onB op.quiet (onW (wantedA T g) (RB ms p (i + 1) r hs y (T.put d aundef) H)
        (onX (astep op T H) (fun v H' => onB op.reads (seesAll (ms.getD i 0) op T v hs ∧ RB ms p (i + 1) r hs y (T.put d v) H) (RB ms p (i + 1) r hs y (T.put d v) H) .mk .mk) (fun _ _ => False) (fun _ => False) (fun _ _ => False) .mk .mk .mk .mk) .mk .mk) False .mk .mk) .mk .mk) ∧
    (∀ P ms i (hs : List (Nat × AHeap)) (y1 : Frz hs) (rs : List Seen) (y2 : Frz rs) T H (K : Env → AHeap → Prop) (z : Frz K) (R : AVal → AHeap → Prop) (y : Frz R), DSX P ms i [] hs y1 rs y2 T H K z R y = K T H) ∧
    (∀ P ms i d op g af r (hs : List (Nat × AHeap)) (y1 : Frz hs) (rs : List Seen) (y2 : Frz rs) T H (K : Env → AHeap → Prop) (z : Frz K) (R : AVal → AHeap → Prop) (y : Frz R), DSX P ms i (⟨d, op, g, af⟩ :: r) hs y1 rs y2 T H K z R y =
      onW (wantedA T g) (DSX P ms (i + 1) r hs y1 rs y2 (T.put d aundef) H K z R y) (onX (astep op T H)
      (fun v H' => onB op.quiet (onB op.reads (seesAll (ms.getD i 0) op T v hs ∧ DSX P ms (i + 1) r hs y1 (⟨i, op, T, v⟩ :: rs) .mk (T.put d v) H K z R y) (DSX P ms (i + 1) r hs y1 rs y2 (T.put d v) H K z R y) .mk .mk)
        (staysAll (ms.getD i 0) H' rs ∧ DSX P ms (i + 1) r ((i, H) :: hs) .mk rs y2 (T.put d v) H' K z R y) .mk .mk)
      (fun f as => DCX P f as H (fun v H' => staysAll (ms.getD i 0) H' rs ∧ DSX P ms (i + 1) r ((i, H) :: hs) .mk rs y2 (T.put d v) H' K z R y) .mk (fun v H' => R v H' ∧ RB ms i (i + 1) r hs y1 (T.put d aundef) H) .mk)
      (fun _ => False) (fun _ _ => False) .mk .mk .mk .mk) .mk .mk) :=
  ⟨fun _ _ _ _ _ _ _ => propext Iff.rfl, fun _ _ _ _ _ _ _ _ _ _ _ _ => propext Iff.rfl, fun _ _ _ _ _ _ _ _ _ _ _ _ _ => propext Iff.rfl, fun _ _ _ _ _ _ _ _ _ _ _ _ _ _ _ _ _ _ => propext Iff.rfl⟩
end Go.Am
namespace Go.Am
section
variable {P : Program} {ks : Keeps} {nt : Nat} {k : List AItem} {T : Env} {H : AHeap}
theorem DRX.retv {al : List ARes} {K : AOut → AHeap → Prop} (h : ∃ r, aresult H T al = some r ∧ K (.ret r) H) : DRX P ks nt (.code .ret :: k) [] T H (fun e ds T' H' => DLeave P al ds e T' H' K) := DRX.ret h
theorem DRX.donev {al : List ARes} {K : AOut → AHeap → Prop} (h : ∃ r, aresult H T al = some r ∧ K (.ret r) H) : DRX P ks nt [] [] T H (fun e ds T' H' => DLeave P al ds e T' H' K) := DRX.done h
theorem DLeave_pan {al : List ARes} {K : AOut → AHeap → Prop} {v : AVal} : DLeave P al [] (.pan v) T H K = K (.pan v) H := rfl
/-- A function that never panics, in a body that may. -/
theorem DR.x {todo : List AItem} {Q : Env → AHeap → Prop} (h : DR P ks nt todo T H Q) : ∃ T' H', Q T' H' ∧ Runs P ks nt todo T H fun a b => a = T' ∧ b = H' := h
end
theorem DRX.go {P : Program} {ks : Keeps} {nt : Nat} {ds : List ADef} {T : Env} {H : AHeap} {Q : AEnd → List ADef → Env → AHeap → Prop} {k k2 : List AItem} {l : List AOper} {kl : List Nat} (e : anm 60 k = some (.code (.region false l kl) :: k2)) (h : DOX P l ds T H (fun ds' T' H' => AtX P ks nt k2 ds' (T'.keep kl) H' Q .mk .mk) .mk (fun v ds' T' H' => Q (.pan v) ds' T' H') .mk) : DRX P ks nt k ds T H Q := DRX.nm e (DRX.ops h)
theorem DRX.ye {P : Program} {ks : Keeps} {nt : Nat} {ds : List ADef} {T : Env} {H : AHeap} {Q : AEnd → List ADef → Env → AHeap → Prop} {k k2 : List AItem} {u : AOpnd} {x y : ACode} (e : anm 60 k = some (.code (.cond u x y) :: k2)) (hu : T.val u = some (.bool true)) (h : DRX P ks nt (.code x :: k2) ds T H Q) : DRX P ks nt k ds T H Q := DRX.nm e (DRX.yes hu h)
theorem DRX.ne {P : Program} {ks : Keeps} {nt : Nat} {ds : List ADef} {T : Env} {H : AHeap} {Q : AEnd → List ADef → Env → AHeap → Prop} {k k2 : List AItem} {u : AOpnd} {x y : ACode} (e : anm 60 k = some (.code (.cond u x y) :: k2)) (hu : T.val u = some (.bool false)) (h : DRX P ks nt (.code y :: k2) ds T H Q) : DRX P ks nt k ds T H Q := DRX.nm e (DRX.no hu h)
abbrev ACode.g (l : List AOper) (k : List Nat) : ACode := .region false l k
end Go.Am
