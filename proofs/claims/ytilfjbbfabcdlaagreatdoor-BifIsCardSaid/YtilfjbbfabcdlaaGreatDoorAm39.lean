/- Regions whose order is drawn, in bodies that may panic. -/
import Derived.Test.YtilfjbbfabcdlaaGreatDoorAm38
set_option linter.unusedVariables false
set_option linter.unusedSimpArgs false
namespace Go.Am
open Go.RowKit

section
variable {P : Program} {ks : Keeps} {nt : Nat} {k : List AItem} {ds : List ADef} {T : Env} {H : AHeap} {K : AEnd → List ADef → Env → AHeap → Prop}
theorem RunsX.ofLine {l : List AOper} {kl : List Nat} (hm : P.follows .mixedOrders = true) {ms : List Nat} (hk : okDraw l ms = true) {st : Nat → Env × AHeap} (hl : Line P ms l st l.length) (h0' : st 0 = (T, H)) (hfin : RunsX P ks nt k ds ((st l.length).1.keep kl) (st l.length).2 K) :
    RunsX P ks nt (.code (.region true l kl) :: k) ds T H K := by
  intro items hc w ro μ a hg hT hs hd b cs
  obtain ⟨i, r, rfl, h1, h2⟩ := cis_cons hc
  obtain ⟨c, rfl, h3⟩ := ci_code h1
  obtain ⟨id, ops, rfl, h4, rfl⟩ := ccode_inv h3
  obtain ⟨hlen, _⟩ := copers_at h4
  have hlen' : ops.size = l.length := by rw [← hlen]; simp
  have hwp : (Code.region id ops true).wp P (fun e a' w' => e = .normal ∧ Mid P nt a.defers l st w ro μ (fun i => i < l.length) a' w') a w := by
    refine wp_region_any hm (draw_any h4 hk hl (fun a w h => ⟨rfl, h⟩) ops.size _ (List.range l.length) a _ (by simp [hlen']) (fun i hi _ => List.mem_range.mpr hi) (by simp [hlen']) ?_)
    have hfalse : ∀ i, ¬ ((Array.replicate ops.size false).getD i false = true) := by
      intro i hi
      simp only [Array.getD_eq_getD_getElem?, Array.getElem?_replicate] at hi
      split at hi <;> simp at hi
    have hx : Ext w ro μ { w with drawn := w.drawn + 1 } ro μ := ⟨fun _ h => h, fun _ _ _ h => h, fun _ _ => rfl, fun _ c _ fr h => ⟨c, fr, h, rfl⟩⟩
    refine ⟨fun i o ho hi => absurd hi (hfalse i), 0, fun _ => 0, ro, μ, Nat.zero_le _, fun _ => Nat.zero_le _, fun e o _ _ => ⟨fun hi => absurd hi (hfalse e), fun h => absurd h (Nat.not_lt_zero _)⟩, fun e o s _ _ => ⟨fun hi => absurd hi (hfalse e), fun h => absurd h (Nat.not_lt_zero _)⟩, ?_, ?_, hs, rfl, ?_⟩
    · rw [h0']; exact hg.drawn _
    · intro s v hv
      rw [h0'] at hv
      exact (hT.val s v hv).ext hx _ _
    · rw [h0']; exact Out.drawn _ _ _ _ _
  obtain ⟨e, a1, w1, ⟨he, hmid⟩, harr⟩ := hwp b r cs
  subst he
  obtain ⟨hd1, p, q, ro1, μ1, hp, hq, hE, hW, hg1, hT1, hs1, hdf1, hout1⟩ := hmid
  have hH : (st l.length).2 = (st p).2 := hl.heap' hp (Nat.le_refl _) fun i o h1 h2 ho => by
    cases hqo : o.op.quiet with
    | true => rfl
    | false => have := (hE i o ho hqo).mp h2; omega
  have hTT : TR P w1 ro1 μ1 (st l.length).1 a1.tmps := ⟨fun s v hv => hT1 s v (by
    rw [← hl.get' (s := s) (hq s) (Nat.le_refl _) fun i o h1 h2 ho hds => by have := (hW i o s ho hds).mp h2; omega]
    exact hv), hg1.glob⟩
  rw [← hH] at hg1 hout1
  rw [h0'] at hout1
  have hd2 : DefRs P w1 ro1 μ1 ds a1.defers := by rw [hdf1]; exact hd.ext (Out.ext hg hout1)
  obtain ⟨a', w', todo', m, hp', hsteps⟩ := hfin r h2 w1 ro1 μ1 a1 hg1 (hTT.keep _) hs1 hd2 b cs
  exact ⟨a', w', todo', m, hp'.from hout1, Steps.trans harr hsteps⟩
end

/-! ### One operation panics in each order -/
/-- In the order of the text; the operation 'p' (a call) panics; what comes after it alone in each order is never run. -/
structure LineB (P : Program) (ms : List Nat) (l : List AOper) (st : Nat → Env × AHeap) (p : Nat) : Prop where
  step : ∀ i o, i < l.length → l[i]? = some o → i ≠ p → (ms.getD i 0).testBit p = false → StepD P o (st i).1 (st i).2 (st (i + 1)).1 (st (i + 1)).2
  dead : ∀ i o, i < l.length → l[i]? = some o → (i = p ∨ (ms.getD i 0).testBit p = true) → st (i + 1) = ((st i).1.put o.dst aundef, (st i).2)
  late : ∀ (j e : Nat) q o v, j < e → e < l.length → e ≠ p → (ms.getD e 0).testBit p = false → l[j]? = some q → l[e]? = some o → j ≠ p → (ms.getD j 0).testBit p = false → q.op.quiet = true → q.op.reads = true → wantedA (st j).1 q.guard = some true → astep q.op (st j).1 (st j).2 = some (.value v (st j).2) →
    o.op.quiet = false → wantedA (st e).1 o.guard = some true → (ms.getD e 0).testBit j = true ∨ astep q.op (st j).1 (st (e + 1)).2 = some (.value v (st (e + 1)).2)
  soon : ∀ (j e : Nat) q o v, e < j → j < l.length → e ≠ p → (ms.getD e 0).testBit p = false → l[j]? = some q → l[e]? = some o → j ≠ p → (ms.getD j 0).testBit p = false → q.op.quiet = true → q.op.reads = true → wantedA (st j).1 q.guard = some true → astep q.op (st j).1 (st j).2 = some (.value v (st j).2) →
    o.op.quiet = false → wantedA (st e).1 o.guard = some true → (ms.getD j 0).testBit e = true ∨ astep q.op (st j).1 (st e).2 = some (.value v (st e).2)

section
variable {P : Program} {ms : List Nat} {l : List AOper} {st : Nat → Env × AHeap} {p : Nat}
theorem LineB.get1 (hl : LineB P ms l st p) {i : Nat} {o : AOper} (hi : i < l.length) (ho : l[i]? = some o) {s : Nat} (hs : o.dst ≠ some s) : (st (i + 1)).1.get s = (st i).1.get s := by
  by_cases h : i = p ∨ (ms.getD i 0).testBit p = true
  · rw [hl.dead i o hi ho h]
    cases hd : o.dst with
    | none => rfl
    | some d =>
      simp only [Env.put, Env.get_set]
      rw [if_neg (fun e => hs (by rw [hd, e]))]
  · exact (hl.step i o hi ho (fun e => h (.inl e)) (by simpa using fun e => h (.inr e))).get hs
theorem LineB.get (hl : LineB P ms l st p) {s : Nat} : ∀ (d i0 : Nat), i0 + d ≤ l.length → (∀ i o, i0 ≤ i → i < i0 + d → l[i]? = some o → o.dst ≠ some s) → (st (i0 + d)).1.get s = (st i0).1.get s
  | 0, _, _, _ => rfl
  | d + 1, i0, hp, hn => by
    have hlt : i0 + d < l.length := by omega
    have ho := List.getElem?_eq_getElem hlt
    have := hl.get1 hlt ho (hn (i0 + d) _ (by omega) (by omega) ho)
    rw [show i0 + (d + 1) = i0 + d + 1 by omega, this]
    exact LineB.get hl d i0 (by omega) fun i o h1 h2 => hn i o h1 (by omega)
theorem LineB.get' (hl : LineB P ms l st p) {s i0 q : Nat} (hpq : i0 ≤ q) (hq : q ≤ l.length) (hn : ∀ i o, i0 ≤ i → i < q → l[i]? = some o → o.dst ≠ some s) : (st q).1.get s = (st i0).1.get s := by
  have := hl.get (s := s) (q - i0) i0 (by omega) (fun i o h1 h2 => hn i o h1 (by omega))
  rwa [show i0 + (q - i0) = q by omega] at this
theorem LineB.heap1 (hl : LineB P ms l st p) {i : Nat} {o : AOper} (hi : i < l.length) (ho : l[i]? = some o) (h : o.op.quiet = true ∨ i = p ∨ (ms.getD i 0).testBit p = true ∨ wantedA (st i).1 o.guard = some false) : (st (i + 1)).2 = (st i).2 := by
  by_cases hd : i = p ∨ (ms.getD i 0).testBit p = true
  · rw [hl.dead i o hi ho hd]
  · refine (hl.step i o hi ho (fun e => hd (.inl e)) (by simpa using fun e => hd (.inr e))).heap ?_
    rcases h with h | h | h | h
    · exact .inl h
    · exact absurd (.inl h) hd
    · exact absurd (.inr h) hd
    · exact .inr h
theorem LineB.heap (hl : LineB P ms l st p) : ∀ (d i0 : Nat), i0 + d ≤ l.length → (∀ i o, i0 ≤ i → i < i0 + d → l[i]? = some o → o.op.quiet = true) → (st (i0 + d)).2 = (st i0).2
  | 0, _, _, _ => rfl
  | d + 1, i0, hp, hn => by
    have hlt : i0 + d < l.length := by omega
    have ho := List.getElem?_eq_getElem hlt
    have := hl.heap1 hlt ho (.inl (hn (i0 + d) _ (by omega) (by omega) ho))
    rw [show i0 + (d + 1) = i0 + d + 1 by omega, this]
    exact LineB.heap hl d i0 (by omega) fun i o h1 h2 => hn i o h1 (by omega)
theorem LineB.heap' (hl : LineB P ms l st p) {i0 q : Nat} (hpq : i0 ≤ q) (hq : q ≤ l.length) (hn : ∀ i o, i0 ≤ i → i < q → l[i]? = some o → o.op.quiet = true) : (st q).2 = (st i0).2 := by
  have := hl.heap (q - i0) i0 (by omega) (fun i o h1 h2 => hn i o h1 (by omega))
  rwa [show i0 + (q - i0) = q by omega] at this
theorem LineB.later (hl : LineB P ms l st p) {j : Nat} {q : AOper} {v : AVal} (hj : l[j]? = some q) (hjp : j ≠ p) (hjb : (ms.getD j 0).testBit p = false) (hq : q.op.quiet = true) (hw : wantedA (st j).1 q.guard = some true) (hv : astep q.op (st j).1 (st j).2 = some (.value v (st j).2)) :
    ∀ (d : Nat), j + d ≤ l.length → (∀ (e : Nat) o, j < e → e < j + d → l[e]? = some o → o.op.quiet = false → (ms.getD e 0).testBit j = false) → astep q.op (st j).1 (st (j + d)).2 = some (.value v (st (j + d)).2)
  | 0, _, _ => hv
  | d + 1, hd, hn => by
    by_cases hr : q.op.reads = true
    · have hlt : j + d < l.length := by omega
      have ho := List.getElem?_eq_getElem hlt
      have ih := LineB.later hl hj hjp hjb hq hw hv d (by omega) fun e o h1 h2 => hn e o h1 (by omega)
      rw [show j + (d + 1) = j + d + 1 by omega]
      by_cases hdd : j + d = p ∨ (ms.getD (j + d) 0).testBit p = true
      · rw [hl.dead _ _ hlt ho hdd]; exact ih
      · have hstep := hl.step (j + d) _ hlt ho (fun e => hdd (.inl e)) (by simpa using fun e => hdd (.inr e))
        by_cases hqo : (l[j + d]).op.quiet = true ∨ wantedA (st (j + d)).1 (l[j + d]).guard = some false
        · rw [hstep.heap hqo]; exact ih
        · have hq1 : (l[j + d]).op.quiet = false := by
            cases h : (l[j + d]).op.quiet with
            | false => rfl
            | true => exact absurd (.inl h) hqo
          have hw1 : wantedA (st (j + d)).1 (l[j + d]).guard = some true := hstep.wanted.resolve_right fun h => hqo (.inr h)
          have hd0 : 0 < d := by
            rcases Nat.eq_zero_or_pos d with h | h
            · subst h
              have e := hj.symm.trans ho
              injection e with e
              have e' : l[j + 0] = q := e.symm
              rw [e', hq] at hq1; cases hq1
            · exact h
          have := hl.late j (j + d) q _ v (by omega) hlt (fun e => hdd (.inl e)) (by simpa using fun e => hdd (.inr e)) hj ho hjp hjb hq hr hw hv hq1 hw1
          rw [hn (j + d) _ (by omega) (by omega) ho hq1] at this
          exact this.resolve_left (by simp)
    · exact astep_noread hq (by simpa using hr) hv _
theorem LineB.earlier (hl : LineB P ms l st p) {j : Nat} {q : AOper} {v : AVal} (hj : l[j]? = some q) (hjp : j ≠ p) (hjb : (ms.getD j 0).testBit p = false) (hq : q.op.quiet = true) (hw : wantedA (st j).1 q.guard = some true) (hv : astep q.op (st j).1 (st j).2 = some (.value v (st j).2)) :
    ∀ (d i0 : Nat), i0 + d = j → (∀ (e : Nat) o, i0 ≤ e → e < j → l[e]? = some o → o.op.quiet = false → (ms.getD j 0).testBit e = false) → astep q.op (st j).1 (st i0).2 = some (.value v (st i0).2)
  | 0, i0, hp, _ => by
    obtain rfl : i0 = j := (by omega)
    exact hv
  | d + 1, i0, hp, hn => by
    by_cases hr : q.op.reads = true
    · have hjl : j < l.length := (List.getElem?_eq_some_iff.mp hj).1
      have hlt : i0 < l.length := by omega
      have ho := List.getElem?_eq_getElem hlt
      have ih := LineB.earlier hl hj hjp hjb hq hw hv d (i0 + 1) (by omega) fun e o h1 h2 => hn e o (by omega) h2
      by_cases hdd : i0 = p ∨ (ms.getD i0 0).testBit p = true
      · rw [hl.dead _ _ hlt ho hdd] at ih; exact ih
      · have hstep := hl.step i0 _ hlt ho (fun e => hdd (.inl e)) (by simpa using fun e => hdd (.inr e))
        by_cases hqo : (l[i0]).op.quiet = true ∨ wantedA (st i0).1 (l[i0]).guard = some false
        · rw [hstep.heap hqo] at ih; exact ih
        · have hq1 : (l[i0]).op.quiet = false := by
            cases h : (l[i0]).op.quiet with
            | false => rfl
            | true => exact absurd (.inl h) hqo
          have hw1 : wantedA (st i0).1 (l[i0]).guard = some true := hstep.wanted.resolve_right fun h => hqo (.inr h)
          have := hl.soon j i0 q _ v (by omega) hjl (fun e => hdd (.inl e)) (by simpa using fun e => hdd (.inr e)) hj ho hjp hjb hq hr hw hv hq1 hw1
          rw [hn i0 _ (by omega) (by omega) ho hq1] at this
          exact this.resolve_left (by simp)
    · exact astep_noread hq (by simpa using hr) hv _
end

/-- What a region's panicking call is. -/
def Pans (P : Program) (o : AOper) (T : Env) (H : AHeap) (R : AVal → AHeap → Prop) : Prop :=
  wantedA T o.guard = some true ∧ ∃ f as, astep o.op T H = some (.enter f as) ∧ Callable P f ∧ CallX P f as H fun x H' => ∃ v, x = .pan v ∧ R v H'
theorem Mid.goB {P : Program} {nt : Nat} {dv : List Deferred} {ms : List Nat} {l : List AOper} {st : Nat → Env × AHeap} {ops : Array Oper} {p0 : Nat} {op0 : AOper} {R : AVal → AHeap → Prop} (hc : copers P nt ops ops.toList = some l) (hk : okDraw l ms = true) (hl : LineB P ms l st p0) (hop0 : l[p0]? = some op0) (hpan : Pans P op0 (st p0).1 (st p0).2 R)
    {w0 : World} {ro0 : Nat → Prop} {μ0 : Mu} {S : Nat → Prop} {a : Act} {w : World} (hm : Mid P nt dv l st w0 ro0 μ0 S a w) (hnp : ¬ S p0) {i : Nat} {o : Oper} {ao : AOper} (ho : ops[i]? = some o) (hao : l[i]? = some ao) (hco : coper P nt ops o = some ao)
    (hS : ¬ S i) (hr : ∀ j ∈ ao.after, S j) {Q : Exit → Act → World → Prop} {K : Act → World → Prop} (hQ : ∀ v u H' ro' μ' a' w', VR P w' ro' μ' v u → R v H' → Good P w' ro' μ' H' → a'.tmps.size = nt → a'.defers = dv → Out w0 ro0 μ0 (st 0).2 w' ro' μ' H' → Q (.panic [{ v := u, recovered := false }]) a' w')
    (hK0 : ∀ a w, Mid P nt dv l st w0 ro0 μ0 (fun j => j = i ∨ S j) a w → ¬ (p0 = i ∨ S p0) → K a w) : wpOp P ops Q i K a w := by
  obtain ⟨hd, p, q, ro, μ, hp, hq, hE, hW, hg, hT, hs, hdf, hout⟩ := hm
  obtain ⟨h1, h2, h3, h4⟩ := coper_inv hco
  obtain ⟨k1, k2, k3⟩ := okDraw_at hk hao
  have hil : i < l.length := (List.getElem?_eq_some_iff.mp hao).1
  -- what is ahead of it is listed, what comes after it is not
  have hfor : ∀ {j}, (ms.getD i 0).testBit j = true → S j := fun hj => hd.bit hk hao hr hj
  have hback : ∀ {j o'}, l[j]? = some o' → (ms.getD j 0).testBit i = true → ¬ S j := fun {j o'} hj hb hSj => hS (hd.bit hk hj (fun k hk' => hd j o' hj hSj k hk') hb)
  -- slots
  have hslot : ∀ s ∈ ao.slots, (st (q s)).1.get s = (st i).1.get s := by
    intro s hsl
    rcases Nat.lt_or_ge (q s) i with hlt | hge
    · refine (hl.get' (Nat.le_of_lt hlt) (Nat.le_of_lt hil) fun j o' hj1 hj2 hj hds => ?_).symm
      have hns : ¬ S j := fun h => by have := (hW j o' s hj hds).mp h; omega
      rcases k3 j o' hj2 hj with hb | hb
      · exact hns (hfor hb)
      · exact (apart_inv hb).1 s hds hsl
    · refine hl.get' hge (hq s) fun j o' hj1 hj2 hj hds => ?_
      have hSj : S j := (hW j o' s hj hds).mpr hj2
      rcases Nat.lt_or_ge i j with hij | hij
      · rcases (okDraw_at hk hj).2.2 i ao hij hao with hb | hb
        · exact hback hj hb hSj
        · exact (apart_inv hb).2.2.1 s hds hsl
      · have hji : j = i := by omega
        rw [hji] at hSj; exact hS hSj
  have hTi : TR P w ro μ ((st i).1.keep ao.slots) a.tmps := ⟨fun s v hv => by
    obtain ⟨b1, b2⟩ := Env.keep_in _ _ _ _ hv
    exact hT s v (by rw [hslot s b1]; exact b2), hg.glob⟩
  have hval : ∀ x ∈ ao.op.opnds, ((st i).1.keep ao.slots).val x = (st i).1.val x := by
    intro x hx
    cases x with
    | c v => rfl
    | t s => exact Env.keep_get _ _ _ (List.mem_append_left _ (List.mem_flatMap.mpr ⟨_, hx, List.mem_singleton.mpr rfl⟩))
  have hgd : wantedA ((st i).1.keep ao.slots) ao.guard = wantedA (st i).1 ao.guard := by
    cases hgu : ao.guard with
    | none => rfl
    | some gb =>
      obtain ⟨g, b⟩ := gb
      have : g ∈ ao.slots := List.mem_append_right _ (by rw [hgu]; exact List.mem_singleton.mpr rfl)
      simp only [wantedA, Env.keep_get _ _ _ this]
  -- behind it
  have hdown' : Down l (fun j => j = i ∨ S j) := by
    intro j o' hj hSj k hk'
    rcases hSj with rfl | hSj
    · rw [hao] at hj; cases hj; exact .inr (hr k hk')
    · exact .inr (hd j o' hj hSj k hk')
  have hW' : ∀ (j : Nat) o' s, l[j]? = some o' → o'.dst = some s → ((j = i ∨ S j) ↔ j < (if ao.dst = some s then i + 1 else q s)) := by
    intro j o' s hj hds
    by_cases hsi : ao.dst = some s
    · rw [if_pos hsi]
      rcases Nat.lt_trichotomy j i with hji | hji | hji
      · refine ⟨fun _ => by omega, fun _ => .inr ?_⟩
        rcases k3 j o' hji hj with hb | hb
        · exact hfor hb
        · exact absurd hsi ((apart_inv hb).2.1 s hds)
      · exact ⟨fun _ => by omega, fun _ => .inl hji⟩
      · refine ⟨fun h => ?_, fun h => by omega⟩
        have hSj : S j := h.resolve_left (by omega)
        rcases (okDraw_at hk hj).2.2 i ao hji hao with hb | hb
        · exact absurd hSj (hback hj hb)
        · exact absurd hds ((apart_inv hb).2.1 s hsi)
    · rw [if_neg hsi]
      have hne : j ≠ i := by rintro rfl; rw [hao] at hj; cases hj; exact hsi hds
      rw [← hW j o' s hj hds]
      exact ⟨fun h => h.resolve_left hne, .inr⟩
  have hq' : ∀ s, (if ao.dst = some s then i + 1 else q s) ≤ l.length := fun s => by split <;> first | exact hil | exact hq s
  -- the state's slots behind it
  have hTT : ∀ {w1 : World} {ro1 : Nat → Prop} {μ1 : Mu} {v : AVal} {v' : Value}, (∀ s u, (st (q s)).1.get s = some u → VR P w1 ro1 μ1 u (a.tmps.getD s undef)) → VR P w1 ro1 μ1 v v' → (st (i + 1)).1 = (st i).1.put ao.dst v →
      (∀ s u, (st (if ao.dst = some s then i + 1 else q s)).1.get s = some u → VR P w1 ro1 μ1 u ((a.put o.dst v').tmps.getD s undef)) ∧ (a.put o.dst v').tmps.size = nt ∧ (a.put o.dst v').defers = dv := by
    intro w1 ro1 μ1 v v' hT1 hv he
    rw [← h3]
    rw [← h3] at h4
    cases hds : ao.dst with
    | none => exact ⟨fun s u hu => hT1 s u (by simpa using hu), hs, hdf⟩
    | some d =>
      rw [hds] at h4 he
      simp only [dstOk, decide_eq_true_eq] at h4
      refine ⟨fun s u hu => ?_, by simp [Act.put, hs], by simp [Act.put, hdf]⟩
      by_cases hsd : s = d
      · subst hsd
        rw [if_pos rfl, he] at hu
        simp only [Env.put, Env.get_set, if_true] at hu
        cases hu
        simp only [Act.put, Array.getD_eq_getD_getElem?, Array.getElem?_setIfInBounds, if_true, hs, h4]
        exact hv
      · rw [if_neg (by simpa using Ne.symm hsd)] at hu
        have := hT1 s u hu
        simp only [Act.put, Array.getD_eq_getD_getElem?, Array.getElem?_setIfInBounds, if_neg (Ne.symm hsd)] at this ⊢
        exact this
  have hget : ops[i]? = some o := ho
  simp only [wpOp, hget]
  by_cases hip : i = p0
  · subst hip
    rw [hao] at hop0; injection hop0 with hop0; subst hop0
    obtain ⟨hw, f, as, hsv, hcb, hcall⟩ := hpan
    have hwt := wantedA_sound hTi h2 (hgd.trans hw)
    simp only [hwt, if_true]
    have hcong : ∀ H, astep ao.op ((st i).1.keep ao.slots) H = astep ao.op (st i).1 H := fun H => astep_congr _ _ hval
    have hqt := enter_quiet hsv
    have hEi : ∀ (e : Nat) o', l[e]? = some o' → o'.op.quiet = false → e < i → S e := by
      intro e o' he hqe hei
      rcases k3 e o' hei he with hb | hb
      · exact hfor hb
      · rcases (apart_inv hb).2.2.2 with h | h
        · rw [hqe] at h; cases h
        · rw [hqt] at h; cases h
    have hpi : p ≤ i := by
      rcases Nat.lt_or_ge i p with h | h
      · exact absurd ((hE i ao hao hqt).mpr h) hS
      · exact h
    have hheap : (st i).2 = (st p).2 := hl.heap' hpi (Nat.le_of_lt hil) fun j o' hj1 hj2 hj => by
      cases hqj : o'.op.quiet with
      | true => rfl
      | false => have := (hE j o' hj hqj).mp (hEi j o' hj hqj hj2); omega
    rw [hheap] at hsv hcall
    obtain ⟨args, hrun, hargs⟩ := cop_enter (w := w) hTi h1 ((hcong _).trans hsv) hcb
    refine .inl ?_
    unfold Oper.wp
    rw [hrun]
    show Calls P f args w _
    refine (hcall w ro μ args hg hargs).mono ?_
    rintro e w1 ⟨x, H1, ro1, μ1, ⟨v, rfl, hRv⟩, ⟨u, rfl, hv⟩, hg1, ho1⟩
    exact hQ v u H1 ro1 μ1 a w1 hv hRv hg1 hs hdf (hout.trans ho1)
  have hal : (ms.getD i 0).testBit p0 = false := by
    cases hb : (ms.getD i 0).testBit p0 with
    | false => rfl
    | true => exact absurd (hfor hb) hnp
  have hstep := hl.step i ao hil hao hip hal
  have hK : ∀ a w, Mid P nt dv l st w0 ro0 μ0 (fun j => j = i ∨ S j) a w → K a w := fun a w h => hK0 a w h fun e => e.elim (fun e => hip e.symm) hnp
  rcases hstep.wanted with hw | hw
  · -- wanted
    have hwt := wantedA_sound hTi h2 (hgd.trans hw)
    simp only [hwt, if_true]
    have hcong : ∀ H, astep ao.op ((st i).1.keep ao.slots) H = astep ao.op (st i).1 H := fun H => astep_congr _ _ hval
    cases hqt : ao.op.quiet with
    | true =>
      have hst0 := hstep
      simp only [StepD, hw] at hst0
      cases hsv : astep ao.op (st i).1 (st i).2 with
      | none => rw [hsv] at hst0; exact hst0.elim
      | some nx =>
        obtain ⟨v, rfl⟩ := astep_quiet hqt hsv
        rw [hsv] at hst0
        obtain ⟨e1, e2⟩ := hst0
        have hsee : astep ao.op (st i).1 (st p).2 = some (.value v (st p).2) := by
          rcases Nat.lt_or_ge p i with hlt | hge
          · refine hl.earlier hao hip hal hqt hw hsv (i - p) p (by omega) fun e o' he1 he2 he hqe => ?_
            cases hb : (ms.getD i 0).testBit e with
            | false => rfl
            | true => have := (hE e o' he hqe).mp (hfor hb); omega
          · have := hl.later hao hip hal hqt hw hsv (p - i) (by omega) fun e o' he1 he2 he hqe => by
              cases hb : (ms.getD e 0).testBit i with
              | false => rfl
              | true => exact absurd ((hE e o' he hqe).mpr (by omega)) (hback he hb)
            rwa [show i + (p - i) = p by omega] at this
        obtain ⟨v', w1, μ1, hrun, hv, hg1, ho1⟩ := cop_sound hg hTi h1 ((hcong _).trans hsee)
        have hx := Out.ext hg ho1
        obtain ⟨t1, t2, t3⟩ := hTT (fun s u hu => (hT s u hu).ext hx _ _) hv e1
        have hmid : Mid P nt dv l st w0 ro0 μ0 (fun j => j = i ∨ S j) (a.put o.dst v') w1 :=
          ⟨hdown', p, _, ro, μ1, hp, hq', fun e o' he hqe => by
            have hne : e ≠ i := by rintro rfl; rw [hao] at he; cases he; rw [hqt] at hqe; cases hqe
            rw [← hE e o' he hqe]; exact ⟨fun h => h.resolve_left hne, .inr⟩, hW', hg1, t1, t2, t3, hout.trans ho1⟩
        refine .inl ?_
        unfold Oper.wp
        rcases hrun with hrun | ⟨hrun, rfl⟩
        · rw [hrun]; exact hK _ _ hmid
        · rw [hrun]; exact hK _ _ hmid
    | false =>
      -- no other is between
      have hEi : ∀ (e : Nat) o', l[e]? = some o' → o'.op.quiet = false → e < i → S e := by
        intro e o' he hqe hei
        rcases k3 e o' hei he with hb | hb
        · exact hfor hb
        · rcases (apart_inv hb).2.2.2 with h | h
          · rw [hqe] at h; cases h
          · rw [hqt] at h; cases h
      have hEi' : ∀ (e : Nat) o', l[e]? = some o' → o'.op.quiet = false → i < e → ¬ S e := by
        intro e o' he hqe hei
        rcases (okDraw_at hk he).2.2 i ao hei hao with hb | hb
        · exact hback he hb
        · rcases (apart_inv hb).2.2.2 with h | h
          · rw [hqt] at h; cases h
          · rw [hqe] at h; cases h
      have hpi : p ≤ i := by
        rcases Nat.lt_or_ge i p with h | h
        · exact absurd ((hE i ao hao hqt).mpr h) hS
        · exact h
      have hheap : (st i).2 = (st p).2 := hl.heap' hpi (Nat.le_of_lt hil) fun j o' hj1 hj2 hj => by
        cases hqj : o'.op.quiet with
        | true => rfl
        | false => have := (hE j o' hj hqj).mp (hEi j o' hj hqj hj2); omega
      have hE' : ∀ (e : Nat) o', l[e]? = some o' → o'.op.quiet = false → ((e = i ∨ S e) ↔ e < i + 1) := by
        intro e o' he hqe
        rcases Nat.lt_trichotomy e i with h | h | h
        · exact ⟨fun _ => by omega, fun _ => .inr (hEi e o' he hqe h)⟩
        · exact ⟨fun _ => by omega, fun _ => .inl h⟩
        · exact ⟨fun hh => absurd (hh.resolve_left (by omega)) (hEi' e o' he hqe h), fun hh => by omega⟩
      have hst0 := hstep
      simp only [StepD, hw] at hst0
      cases hsv : astep ao.op (st i).1 (st i).2 with
      | none => rw [hsv] at hst0; exact hst0.elim
      | some nx =>
        rw [hsv] at hst0
        rw [hheap] at hsv
        cases nx with
        | anyOf _ => exact hst0.elim
        | pan _ => exact hst0.elim
        | dfr _ _ => exact hst0.elim
        | value v H1 =>
          obtain ⟨e1, e2⟩ := hst0
          obtain ⟨v', w1, μ1, hrun, hv, hg1, ho1⟩ := cop_sound hg hTi h1 ((hcong _).trans hsv)
          have hx := Out.ext hg ho1
          obtain ⟨t1, t2, t3⟩ := hTT (fun s u hu => (hT s u hu).ext hx _ _) hv e1
          rw [← e2] at hg1 ho1
          have hmid : Mid P nt dv l st w0 ro0 μ0 (fun j => j = i ∨ S j) (a.put o.dst v') w1 :=
            ⟨hdown', i + 1, _, ro, μ1, hil, hq', hE', hW', hg1, t1, t2, t3, hout.trans ho1⟩
          refine .inl ?_
          unfold Oper.wp
          rcases hrun with hrun | ⟨hrun, rfl⟩
          · rw [hrun]; exact hK _ _ hmid
          · rw [hrun]; exact hK _ _ hmid
        | enter f as =>
          obtain ⟨r, ⟨hcb, hcall⟩, e1⟩ := hst0
          rw [hheap] at hcall
          obtain ⟨args, hrun, hargs⟩ := cop_enter (w := w) hTi h1 ((hcong _).trans hsv) hcb
          refine .inl ?_
          unfold Oper.wp
          rw [hrun]
          show Calls P f args w _
          refine (hcall w ro μ args hg hargs).mono ?_
          rintro e w1 ⟨v', r1, H1, ro1, μ1, rfl, ⟨rfl, rfl⟩, hv, hg1, ho1⟩
          have hx := Out.ext hg ho1
          obtain ⟨t1, t2, t3⟩ := hTT (fun s u hu => (hT s u hu).ext hx _ _) hv e1
          exact hK _ _ ⟨hdown', i + 1, _, ro1, μ1, hil, hq', hE', hW', hg1, t1, t2, t3, hout.trans ho1⟩
  · -- not wanted
    have hwt := wantedA_sound hTi h2 (hgd.trans hw)
    simp only [hwt, Bool.false_eq_true, if_false]
    have hst0 := hstep
    simp only [StepD, hw] at hst0
    obtain ⟨e1, e2⟩ := hst0
    obtain ⟨t1, t2, t3⟩ := hTT hT (v := aundef) (v' := undef) ⟨#[], rfl, rfl⟩ e1
    refine hK _ _ ?_
    cases hqt : ao.op.quiet with
    | true =>
      exact ⟨hdown', p, _, ro, μ, hp, hq', fun e o' he hqe => by
            have hne : e ≠ i := by rintro rfl; rw [hao] at he; cases he; rw [hqt] at hqe; cases hqe
            rw [← hE e o' he hqe]; exact ⟨fun h => h.resolve_left hne, .inr⟩, hW', hg, t1, t2, t3, hout⟩
    | false =>
      have hEi : ∀ (e : Nat) o', l[e]? = some o' → o'.op.quiet = false → e < i → S e := by
        intro e o' he hqe hei
        rcases k3 e o' hei he with hb | hb
        · exact hfor hb
        · rcases (apart_inv hb).2.2.2 with h | h
          · rw [hqe] at h; cases h
          · rw [hqt] at h; cases h
      have hEi' : ∀ (e : Nat) o', l[e]? = some o' → o'.op.quiet = false → i < e → ¬ S e := by
        intro e o' he hqe hei
        rcases (okDraw_at hk he).2.2 i ao hei hao with hb | hb
        · exact hback he hb
        · rcases (apart_inv hb).2.2.2 with h | h
          · rw [hqt] at h; cases h
          · rw [hqe] at h; cases h
      have hpi : p ≤ i := by
        rcases Nat.lt_or_ge i p with h | h
        · exact absurd ((hE i ao hao hqt).mpr h) hS
        · exact h
      have hheap : (st i).2 = (st p).2 := hl.heap' hpi (Nat.le_of_lt hil) fun j o' hj1 hj2 hj => by
        cases hqj : o'.op.quiet with
        | true => rfl
        | false => have := (hE j o' hj hqj).mp (hEi j o' hj hqj hj2); omega
      have hE' : ∀ (e : Nat) o', l[e]? = some o' → o'.op.quiet = false → ((e = i ∨ S e) ↔ e < i + 1) := by
        intro e o' he hqe
        rcases Nat.lt_trichotomy e i with h | h | h
        · exact ⟨fun _ => by omega, fun _ => .inr (hEi e o' he hqe h)⟩
        · exact ⟨fun _ => by omega, fun _ => .inl h⟩
        · exact ⟨fun hh => absurd (hh.resolve_left (by omega)) (hEi' e o' he hqe h), fun hh => by omega⟩
      rw [hheap] at e2
      exact ⟨hdown', i + 1, _, ro, μ, hil, hq', hE', hW', by rw [e2]; exact hg, t1, t2, t3, by rw [e2]; exact hout⟩
theorem draw_anyB {P : Program} {nt : Nat} {dv : List Deferred} {ms : List Nat} {l : List AOper} {st : Nat → Env × AHeap} {ops : Array Oper} {p0 : Nat} {op0 : AOper} {R : AVal → AHeap → Prop} (hc : copers P nt ops ops.toList = some l) (hk : okDraw l ms = true) (hl : LineB P ms l st p0) (hop0 : l[p0]? = some op0) (hpan : Pans P op0 (st p0).1 (st p0).2 R)
    {w0 : World} {ro0 : Nat → Prop} {μ0 : Mu} {Q : Exit → Act → World → Prop} (hQ : ∀ v u H' ro' μ' a' w', VR P w' ro' μ' v u → R v H' → Good P w' ro' μ' H' → a'.tmps.size = nt → a'.defers = dv → Out w0 ro0 μ0 (st 0).2 w' ro' μ' H' → Q (.panic [{ v := u, recovered := false }]) a' w') :
    ∀ (fuel : Nat) (listed : Array Bool) (rem : List Nat) (a : Act) (w : World), listed.size = l.length → (∀ i, i < l.length → listed.getD i false = false → i ∈ rem) → rem.length ≤ fuel → Mid P nt dv l st w0 ro0 μ0 (fun i => listed.getD i false = true) a w → ¬ (listed.getD p0 false = true) → wpAny P .any ops Q fuel listed a w := by
  obtain ⟨hlen, hat⟩ := copers_at hc
  have hlen' : ops.size = l.length := by rw [← hlen]; simp
  have aft : ∀ {i : Nat} {o : Oper} {ao : AOper}, ops[i]? = some o → l[i]? = some ao → coper P nt ops o = some ao ∧ ao.after = (o.after.toList.filter (Region.binds .any)).map (·.on) := by
    intro i o ao ho hao
    obtain ⟨ao', h1, h2⟩ := hat i o (by simpa using ho)
    rw [hao] at h1; cases h1
    exact ⟨h2, coper_after h2⟩
  have gd : ∀ (listed : Array Bool) (i : Nat) (b : Bool), i < listed.size → listed.getD i b = listed.getD i false := by
    intro listed i b hi
    simp [Array.getD_eq_getD_getElem?, hi]
  have done : ∀ (listed : Array Bool) (a : Act) (w : World), listed.size = l.length → Mid P nt dv l st w0 ro0 μ0 (fun i => listed.getD i false = true) a w → ¬ (listed.getD p0 false = true) → Region.ready .any ops listed = [] → Q .normal a w := by
    intro listed a w hsz hm hnp hr
    have all : ∀ i, i < l.length → listed.getD i false = true := by
      intro i
      induction i using Nat.strongRecOn with
      | ind i ih =>
        intro hi
        cases hb : listed.getD i false with
        | true => rfl
        | false =>
          have hio : i < ops.size := by omega
          have ho : ops[i]? = some ops[i] := by simp [hio]
          have hao := List.getElem?_eq_getElem hi
          obtain ⟨a1, a2⟩ := aft ho hao
          have : i ∈ Region.ready .any ops listed := ready_mem ((gd listed i true (by omega)).trans hb) ho fun j hj => by
            rw [← a2] at hj
            have hji := (okDraw_at hk hao).1 j hj
            exact ih j hji (by omega)
          rw [hr] at this; cases this
    exact absurd (all p0 (List.getElem?_eq_some_iff.mp hop0).1) hnp
  have step : ∀ (listed : Array Bool) (a : Act) (w : World), listed.size = l.length → Mid P nt dv l st w0 ro0 μ0 (fun i => listed.getD i false = true) a w → ¬ (listed.getD p0 false = true) → ∀ i ∈ Region.ready .any ops listed, ∀ {K : Act → World → Prop},
      (∀ a w, Mid P nt dv l st w0 ro0 μ0 (fun j => (listed.setIfInBounds i true).getD j false = true) a w → ¬ ((listed.setIfInBounds i true).getD p0 false = true) → K a w) → wpOp P ops Q i K a w := by
    intro listed a w hsz hm hnp i hi K hK
    obtain ⟨h1, h2, o, ho, h3⟩ := mem_ready hi
    have hil : i < l.length := by omega
    have hao := List.getElem?_eq_getElem hil
    obtain ⟨a1, a2⟩ := aft ho hao
    have hSi : ¬ (listed.getD i false = true) := by rw [← gd listed i true (by omega), h2]; simp
    refine hm.goB hc hk hl hop0 hpan hnp ho hao a1 hSi (by rw [a2]; exact h3) hQ fun a w hmid hne => hK a w (hmid.congr (fun j o' hj => ?_) fun i o ho => (okDraw_at hk ho).1) fun hx => hne ?_
    rotate_left
    · by_cases hpi : p0 = i
      · exact .inl hpi
      · simp only [Array.getD_eq_getD_getElem?, Array.getElem?_setIfInBounds, if_neg (Ne.symm hpi)] at hx ⊢
        exact .inr hx
    by_cases hji : j = i
    · subst hji
      simp [Array.getD_eq_getD_getElem?, Array.getElem?_setIfInBounds, hsz, hil]
    · simp [Array.getD_eq_getD_getElem?, Array.getElem?_setIfInBounds, Ne.symm hji, hji]
  intro fuel
  induction fuel with
  | zero =>
    intro listed rem a w hsz hrem hle hm hnp
    have hnil : rem = [] := List.length_eq_zero_iff.mp (by omega)
    have hr : Region.ready .any ops listed = [] := by
      cases hR : Region.ready .any ops listed with
      | nil => rfl
      | cons x xs =>
        obtain ⟨h1, h2, _⟩ := mem_ready (i := x) (by rw [hR]; exact List.mem_cons_self)
        have := hrem x (by omega) (by rw [← gd listed x true (by omega)]; exact h2)
        rw [hnil] at this; cases this
    exact ⟨hr, done listed a w hsz hm hnp hr⟩
  | succ fuel ih =>
    intro listed rem a w hsz hrem hle hm hnp
    refine ⟨done listed a w hsz hm hnp, fun i hi => step listed a w hsz hm hnp i hi fun a' w' hm' hnp' => ?_⟩
    obtain ⟨h1, h2, _⟩ := mem_ready hi
    have him : i ∈ rem := hrem i (by omega) (by rw [← gd listed i true (by omega)]; exact h2)
    refine ih _ (rem.erase i) a' w' (by simp [hsz]) (fun j hj hlj => ?_) (by rw [List.length_erase_of_mem him]; omega) hm' hnp'
    have hne : j ≠ i := by
      rintro rfl
      simp [Array.getD_eq_getD_getElem?, Array.getElem?_setIfInBounds, hsz, hj] at hlj
    refine (List.mem_erase_of_ne hne).mpr (hrem j hj ?_)
    simpa [Array.getD_eq_getD_getElem?, Array.getElem?_setIfInBounds, Ne.symm hne] using hlj


section
variable {P : Program} {ks : Keeps} {nt : Nat} {k : List AItem} {ds : List ADef} {T : Env} {H : AHeap} {K : AEnd → List ADef → Env → AHeap → Prop}
theorem RunsX.ofLineB {l : List AOper} {kl : List Nat} (hm : P.follows .mixedOrders = true) {ms : List Nat} (hk : okDraw l ms = true) {st : Nat → Env × AHeap} {p0 : Nat} {op0 : AOper} {R : AVal → AHeap → Prop} (hl : LineB P ms l st p0) (hop0 : l[p0]? = some op0) (hpan : Pans P op0 (st p0).1 (st p0).2 R) (h0' : st 0 = (T, H)) (hR : ∀ v H', R v H' → K (.pan v) ds [] H') :
    RunsX P ks nt (.code (.region true l kl) :: k) ds T H K := by
  intro items hc w ro μ a hg hT hs hd b cs
  obtain ⟨i, r, rfl, h1, h2⟩ := cis_cons hc
  obtain ⟨c, rfl, h3⟩ := ci_code h1
  obtain ⟨id, ops, rfl, h4, rfl⟩ := ccode_inv h3
  obtain ⟨hlen, _⟩ := copers_at h4
  have hlen' : ops.size = l.length := by rw [← hlen]; simp
  have hwp : (Code.region id ops true).wp P (fun e a' w' => ∃ v u H' ro' μ', e = .panic [{ v := u, recovered := false }] ∧ VR P w' ro' μ' v u ∧ R v H' ∧ Good P w' ro' μ' H' ∧ a'.tmps.size = nt ∧ a'.defers = a.defers ∧ Out w ro μ (st 0).2 w' ro' μ' H') a w := by
    have hfalse : ∀ i, ¬ ((Array.replicate ops.size false).getD i false = true) := by
      intro i hi
      simp only [Array.getD_eq_getD_getElem?, Array.getElem?_replicate] at hi
      split at hi <;> simp at hi
    refine wp_region_any hm (draw_anyB (dv := a.defers) h4 hk hl hop0 hpan (fun v u H' ro' μ' a' w' q1 q2 q3 q4 q5 q6 => ⟨v, u, H', ro', μ', rfl, q1, q2, q3, q4, q5, q6⟩) ops.size _ (List.range l.length) a _ (by simp [hlen']) (fun i hi _ => List.mem_range.mpr hi) (by simp [hlen']) ?_ (hfalse p0))
    have hx : Ext w ro μ { w with drawn := w.drawn + 1 } ro μ := ⟨fun _ h => h, fun _ _ _ h => h, fun _ _ => rfl, fun _ c _ fr h => ⟨c, fr, h, rfl⟩⟩
    refine ⟨fun i o ho hi => absurd hi (hfalse i), 0, fun _ => 0, ro, μ, Nat.zero_le _, fun _ => Nat.zero_le _, fun e o _ _ => ⟨fun hi => absurd hi (hfalse e), fun h => absurd h (Nat.not_lt_zero _)⟩, fun e o s _ _ => ⟨fun hi => absurd hi (hfalse e), fun h => absurd h (Nat.not_lt_zero _)⟩, ?_, ?_, hs, rfl, ?_⟩
    · rw [h0']; exact hg.drawn _
    · intro s v hv
      rw [h0'] at hv
      exact (hT.val s v hv).ext hx _ _
    · rw [h0']; exact Out.drawn _ _ _ _ _
  obtain ⟨e, a1, w1, ⟨v, u, H1, ro1, μ1, rfl, q1, q2, q3, q4, q5, q6⟩, todo, hst⟩ := hwp b r cs
  rw [h0'] at q6
  have hd2 : DefRs P w1 ro1 μ1 ds a1.defers := by rw [q5]; exact hd.ext (Out.ext hg q6)
  exact ⟨a1, w1, todo, _, ⟨.pan v, ds, [], H1, ro1, μ1, hR v H1 q2, ⟨u, rfl, q1⟩, q3, ⟨fun s v hv => (by cases hv), q3.glob⟩, q4, hd2, q6⟩, hst⟩
end
end Go.Am
