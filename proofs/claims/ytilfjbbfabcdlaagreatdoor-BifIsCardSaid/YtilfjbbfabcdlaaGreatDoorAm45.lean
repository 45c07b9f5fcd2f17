/- Regions whose order is drawn in which two neighbours lay a block each: what comes of both orders of the two. -/
import Derived.Test.YtilfjbbfabcdlaaGreatDoorAm41
set_option linter.unusedVariables false
set_option linter.unusedSimpArgs false
namespace Go.Am
open Go.RowKit

def swp (x j : Nat) : Nat := if j = x then x + 1 else if j = x + 1 then x else j
theorem swp_swp (x j : Nat) : swp x (swp x j) = j := by unfold swp; split <;> split <;> (try split) <;> omega
theorem swp_lt {x j : Nat} (h : j < x) : swp x j = j := by unfold swp; rw [if_neg (by omega), if_neg (by omega)]
theorem swp_iff {x j i : Nat} : j = swp x i ↔ swp x j = i := ⟨fun h => by rw [h, swp_swp], fun h => by rw [← h, swp_swp]⟩
theorem swp_x (x : Nat) : swp x x = x + 1 := by simp [swp]
theorem swp_y (x : Nat) : swp x (x + 1) = x := by simp [swp]
theorem swp_in {x j n : Nat} (hx : x + 1 < n) : j < n ↔ swp x j < n := by unfold swp; split <;> (try split) <;> omega

def idxMap (f : Nat → AOper → AOper) : Nat → List AOper → List AOper
  | _, [] => []
  | i, o :: r => f i o :: idxMap f (i + 1) r
theorem idxMap_at (f : Nat → AOper → AOper) : ∀ (l : List AOper) (i j : Nat), (idxMap f i l)[j]? = l[j]?.map (f (i + j))
  | [], i, j => by simp [idxMap]
  | o :: r, i, 0 => by simp [idxMap]
  | o :: r, i, j + 1 => by
    simp only [idxMap, List.getElem?_cons_succ]
    rw [idxMap_at f r (i + 1) j, show i + 1 + j = i + (j + 1) by omega]
theorem idxMap_length (f : Nat → AOper → AOper) : ∀ (l : List AOper) (i : Nat), (idxMap f i l).length = l.length
  | [], i => rfl
  | o :: r, i => by simp [idxMap, idxMap_length f r]

/-- The second behind the first. -/
def fake1 (x : Nat) (l : List AOper) : List AOper := idxMap (fun j o => if j = x + 1 then { o with after := x :: o.after } else o) 0 l
/-- The two change places; the first behind the second. -/
def fake2 (x : Nat) (l : List AOper) : List AOper := idxMap (fun k o0 => match l[swp x k]? with
  | some o => { o with after := if k = x + 1 then x :: o.after.map (swp x) else o.after.map (swp x) }
  | none => o0) 0 l
theorem fake1_at {x : Nat} {l : List AOper} {j : Nat} {o : AOper} (h : l[j]? = some o) : (fake1 x l)[j]? = some (if j = x + 1 then { o with after := x :: o.after } else o) := by
  unfold fake1; rw [idxMap_at, h]; simp
theorem fake2_at {x : Nat} {l : List AOper} (hx : x + 1 < l.length) {j : Nat} {o : AOper} (h : l[j]? = some o) : (fake2 x l)[swp x j]? = some { o with after := if swp x j = x + 1 then x :: o.after.map (swp x) else o.after.map (swp x) } := by
  unfold fake2
  have hj := (List.getElem?_eq_some_iff.mp h).1
  rw [idxMap_at, List.getElem?_eq_getElem ((swp_in hx).mp hj)]
  simp only [Option.map_some, Nat.zero_add, swp_swp, h]
theorem fake1_length (x : Nat) (l : List AOper) : (fake1 x l).length = l.length := idxMap_length ..
theorem fake2_length (x : Nat) (l : List AOper) : (fake2 x l).length = l.length := idxMap_length ..

theorem StepD.same {P : Program} {o o' : AOper} {T T1 T2 : Env} {H H1 H2 : AHeap} (ho : o.op = o'.op) (hd : o.dst = o'.dst) (hg : o.guard = o'.guard) (hq : o.op.quiet = true) (h1 : StepD P o T H T1 H1) (h2 : StepD P o' T H T2 H2) : (T1, H1) = (T2, H2) := by
  unfold StepD at h1 h2
  rw [← ho, ← hd, ← hg] at h2
  split at h1
  · exact h1.elim
  · rename_i hw; rw [hw] at h2; rw [h1.1, h1.2, h2.1, h2.2]
  · rename_i hw
    rw [hw] at h2
    cases hs : astep o.op T H with
    | none => rw [hs] at h1; exact h1.elim
    | some n =>
      obtain ⟨v, rfl⟩ := astep_quiet hq hs
      rw [hs] at h1 h2
      rw [h1.1, h1.2, h2.1, h2.2]

theorem Mid.turn {P : Program} {nt : Nat} {dv : List Deferred} {ms : List Nat} {l1 l2 : List AOper} {st1 st2 : Nat → Env × AHeap} {w0 : World} {ro0 : Nat → Prop} {μ0 : Mu} {S : Nat → Prop} {a : Act} {w : World} (h : Mid P nt dv l1 st1 w0 ro0 μ0 S a w) (hl : Line P ms l1 st1 l1.length) {x : Nat} (hx : x ≤ l2.length)
    (he : ∀ j o, j < x → l2[j]? = some o → ∃ o', l1[j]? = some o' ∧ o'.op = o.op ∧ o'.dst = o.dst ∧ ∀ i ∈ o.after, i ∈ o'.after) (hst : ∀ j, j ≤ x → st1 j = st2 j) (hS : ∀ j, S j → j < x) : Mid P nt dv l2 st2 w0 ro0 μ0 S a w := by
  obtain ⟨hd, p, q, ro, μ, hp, hq, hE, hW, hg, hT, hs, hdf, hout⟩ := h
  have hpx : (st2 (min p x)).2 = (st1 p).2 := by
    rw [← hst _ (Nat.min_le_right _ _)]
    refine (hl.heap' (Nat.min_le_left _ _) hp fun i o h1 h2 ho => ?_).symm
    cases hqo : o.op.quiet with
    | true => rfl
    | false => have := hS i ((hE i o ho hqo).mpr h2); omega
  have hqx : ∀ s, (st2 (min (q s) x)).1.get s = (st1 (q s)).1.get s := by
    intro s
    rw [← hst _ (Nat.min_le_right _ _)]
    refine (hl.get' (Nat.min_le_left _ _) (hq s) fun i o h1 h2 ho hds => ?_).symm
    have := hS i ((hW i o s ho hds).mpr h2); omega
  refine ⟨fun i o ho hi j hj => ?_, min p x, fun s => min (q s) x, ro, μ, by omega, fun s => Nat.le_trans (Nat.min_le_right _ _) hx, fun e o ho hqe => ?_, fun i o s ho hs => ?_, by rw [hpx]; exact hg, fun s v hv => hT s v (by rw [← hqx]; exact hv), hs, hdf, by rw [hpx, ← hst 0 (Nat.zero_le _)]; exact hout⟩
  · obtain ⟨o', h1, h2, h3, h4⟩ := he i o (hS i hi) ho
    exact hd i o' h1 hi j (h4 j hj)
  · by_cases hex : e < x
    · obtain ⟨o', h1, h2, h3, h4⟩ := he e o hex ho
      rw [hE e o' h1 (by rw [h2]; exact hqe)]; omega
    · exact ⟨fun h => absurd (hS e h) hex, fun h => by omega⟩
  · by_cases hex : i < x
    · obtain ⟨o', h1, h2, h3, h4⟩ := he i o hex ho
      rw [hW i o' s h1 (by rw [h3]; exact hs)]
      show i < q s ↔ i < min (q s) x
      omega
    · refine ⟨fun h => absurd (hS i h) hex, fun h => ?_⟩
      have h : i < min (q s) x := h
      omega

theorem draw_inv {P : Program} {nt : Nat} {l : List AOper} {ops : Array Oper} (hc : copers P nt ops ops.toList = some l) (haft : ∀ (i : Nat) (o : AOper), l[i]? = some o → ∀ j ∈ o.after, j < i) {I : Array Bool → Act → World → Prop} {Q : Exit → Act → World → Prop}
    (hQ : ∀ listed a w, listed.size = l.length → (∀ i, i < l.length → listed.getD i false = true) → I listed a w → Q .normal a w)
    (hstep : ∀ listed a w, listed.size = l.length → I listed a w → ∀ (i : Nat) (o : Oper) (ao : AOper), i < l.length → ¬ (listed.getD i false = true) → ops[i]? = some o → l[i]? = some ao → coper P nt ops o = some ao → (∀ j ∈ ao.after, listed.getD j false = true) → ∀ {K : Act → World → Prop}, (∀ a w, I (listed.setIfInBounds i true) a w → K a w) → wpOp P ops Q i K a w) :
    ∀ (fuel : Nat) (listed : Array Bool) (rem : List Nat) (a : Act) (w : World), listed.size = l.length → (∀ i, i < l.length → listed.getD i false = false → i ∈ rem) → rem.length ≤ fuel → I listed a w → wpAny P .any ops Q fuel listed a w := by
  obtain ⟨hlen, hat⟩ := copers_at hc
  have hlen' : ops.size = l.length := by rw [← hlen]; simp
  have aft : ∀ {i : Nat} {o : Oper} {ao : AOper}, ops[i]? = some o → l[i]? = some ao → coper P nt ops o = some ao ∧ ao.after = (o.after.toList.filter (Region.binds .any)).map (·.on) := by
    intro i o ao ho hao
    obtain ⟨ao', h1, h2⟩ := hat i o (by simpa using ho)
    rw [hao] at h1; cases h1
    exact ⟨h2, coper_after h2⟩
  have gd : ∀ (listed : Array Bool) (i : Nat) (b : Bool), i < listed.size → listed.getD i b = listed.getD i false := by
    intro listed i b hi
    simp [Array.getD_eq_getD_getElem?, hi]
  have done : ∀ (listed : Array Bool) (a : Act) (w : World), listed.size = l.length → I listed a w → Region.ready .any ops listed = [] → Q .normal a w := by
    intro listed a w hsz hm hr
    refine hQ listed a w hsz ?_ hm
    intro i
    induction i using Nat.strongRecOn with
    | ind i ih =>
      intro hi
      cases hb : listed.getD i false with
      | true => rfl
      | false =>
        have hio : i < ops.size := by omega
        have ho : ops[i]? = some ops[i] := by simp [hio]
        have hao := List.getElem?_eq_getElem hi
        obtain ⟨a1, a2⟩ := aft ho hao
        have : i ∈ Region.ready .any ops listed := ready_mem ((gd listed i true (by omega)).trans hb) ho fun j hj => by
          rw [← a2] at hj
          have hji := haft i _ hao j hj
          exact ih j hji (by omega)
        rw [hr] at this; cases this
  intro fuel
  induction fuel with
  | zero =>
    intro listed rem a w hsz hrem hle hm
    have hnil : rem = [] := List.length_eq_zero_iff.mp (by omega)
    have hr : Region.ready .any ops listed = [] := by
      cases hR : Region.ready .any ops listed with
      | nil => rfl
      | cons x xs =>
        obtain ⟨h1, h2, _⟩ := mem_ready (i := x) (by rw [hR]; exact List.mem_cons_self)
        have := hrem x (by omega) (by rw [← gd listed x true (by omega)]; exact h2)
        rw [hnil] at this; cases this
    exact ⟨hr, done listed a w hsz hm hr⟩
  | succ fuel ih =>
    intro listed rem a w hsz hrem hle hm
    refine ⟨done listed a w hsz hm, fun i hi => ?_⟩
    obtain ⟨h1, h2, o, ho, h3⟩ := mem_ready hi
    have hil : i < l.length := by omega
    have hao := List.getElem?_eq_getElem hil
    obtain ⟨a1, a2⟩ := aft ho hao
    have hSi : ¬ (listed.getD i false = true) := by rw [← gd listed i true (by omega), h2]; simp
    refine hstep listed a w hsz hm i o _ hil hSi ho hao a1 (by rw [a2]; exact h3) fun a' w' hm' => ?_
    have him : i ∈ rem := hrem i (by omega) (by rw [← gd listed i true (by omega)]; exact h2)
    refine ih _ (rem.erase i) a' w' (by simp [hsz]) (fun j hj hlj => ?_) (by rw [List.length_erase_of_mem him]; omega) hm'
    have hne : j ≠ i := by
      rintro rfl
      simp [Array.getD_eq_getD_getElem?, Array.getElem?_setIfInBounds, hsz, hj] at hlj
    refine (List.mem_erase_of_ne hne).mpr (hrem j hj ?_)
    simpa [Array.getD_eq_getD_getElem?, Array.getElem?_setIfInBounds, Ne.symm hne] using hlj

/-- Both orders of the two. -/
theorem draw_two {P : Program} {nt : Nat} {dv : List Deferred} {ms1 ms2 : List Nat} {l : List AOper} {x : Nat} {st1 st2 : Nat → Env × AHeap} {ops : Array Oper} (hc : copers P nt ops ops.toList = some l) (hx : x + 1 < l.length)
    (hdep : ∀ (j : Nat) (o : AOper), x + 1 < j → l[j]? = some o → x ∈ o.after) (hpre : ∀ (j : Nat) (o : AOper), j < x → l[j]? = some o → o.op.quiet = true)
    (hk1 : okDraw (fake1 x l) ms1 = true) (hk2 : okDraw (fake2 x l) ms2 = true) (hl1 : Line P ms1 (fake1 x l) st1 (fake1 x l).length) (hl2 : Line P ms2 (fake2 x l) st2 (fake2 x l).length) (h00 : st1 0 = st2 0)
    {w0 : World} {ro0 : Nat → Prop} {μ0 : Mu} {Q : Exit → Act → World → Prop} (hQ1 : ∀ a w, Mid P nt dv (fake1 x l) st1 w0 ro0 μ0 (fun i => i < l.length) a w → Q .normal a w) (hQ2 : ∀ a w, Mid P nt dv (fake2 x l) st2 w0 ro0 μ0 (fun i => i < l.length) a w → Q .normal a w) :
    ∀ (fuel : Nat) (listed : Array Bool) (rem : List Nat) (a : Act) (w : World), listed.size = l.length → (∀ i, i < l.length → listed.getD i false = false → i ∈ rem) → rem.length ≤ fuel → Mid P nt dv (fake1 x l) st1 w0 ro0 μ0 (fun i => listed.getD i false = true) a w → ¬ (listed.getD (x + 1) false = true) → wpAny P .any ops Q fuel listed a w := by
  have haft1 : ∀ (i : Nat) (o : AOper), (fake1 x l)[i]? = some o → ∀ j ∈ o.after, j < i := fun i o ho => (okDraw_at hk1 ho).1
  have haft2 : ∀ (i : Nat) (o : AOper), (fake2 x l)[i]? = some o → ∀ j ∈ o.after, j < i := fun i o ho => (okDraw_at hk2 ho).1
  have haft : ∀ (i : Nat) (o : AOper), l[i]? = some o → ∀ j ∈ o.after, j < i := fun i o ho j hj => haft1 i _ (fake1_at ho) j (by split <;> simp [hj])
  have same : ∀ j o, j < x → l[j]? = some o → (fake1 x l)[j]? = some o ∧ (fake2 x l)[j]? = some o := by
    intro j o hj ho
    have h1 := fake1_at (x := x) ho
    have h2 := fake2_at hx ho
    rw [if_neg (by omega)] at h1
    rw [swp_lt hj, if_neg (by omega)] at h2
    have e : o.after.map (swp x) = o.after := by
      have : ∀ i ∈ o.after, swp x i = i := fun i hi => swp_lt (by have := haft j o ho i hi; omega)
      exact (List.map_congr_left this).trans (List.map_id _)
    rw [e] at h2
    exact ⟨h1, h2⟩
  have hst : ∀ j, j ≤ x → st1 j = st2 j := by
    intro j
    induction j with
    | zero => intro _; exact h00
    | succ j ih =>
      intro hj
      have hjl : j < l.length := by omega
      have ho := List.getElem?_eq_getElem hjl
      obtain ⟨s1, s2⟩ := same j _ (by omega) ho
      have e := ih (by omega)
      have k1 := hl1.step j _ (by rw [fake1_length]; exact hjl) s1
      have k2 := hl2.step j _ (by rw [fake2_length]; exact hjl) s2
      rw [← e] at k2
      exact StepD.same rfl rfl rfl (hpre j _ (by omega) ho) k1 k2
  intro fuel listed rem a w hsz hrem hle hm hy
  refine draw_inv hc haft (I := fun listed a w => (Mid P nt dv (fake1 x l) st1 w0 ro0 μ0 (fun i => listed.getD i false = true) a w ∧ (listed.getD (x + 1) false = true → listed.getD x false = true)) ∨ (Mid P nt dv (fake2 x l) st2 w0 ro0 μ0 (fun i => listed.getD (swp x i) false = true) a w ∧ listed.getD (x + 1) false = true)) (fun listed a w hsz hall hI => ?_) (fun listed a w hsz hI i o ao hil hSi ho hao hco haf K hK => ?_) fuel listed rem a w hsz hrem hle (.inl ⟨hm, fun h => absurd h hy⟩)
  · rcases hI with ⟨hm, _⟩ | ⟨hm, _⟩
    · exact hQ1 a w (hm.congr (fun i o ho => by
        have := (List.getElem?_eq_some_iff.mp ho).1
        rw [fake1_length] at this
        exact ⟨fun _ => hall i this, fun _ => this⟩) haft1)
    · exact hQ2 a w (hm.congr (fun i o ho => by
        have := (List.getElem?_eq_some_iff.mp ho).1
        rw [fake2_length] at this
        exact ⟨fun _ => hall _ ((swp_in hx).mp this), fun _ => this⟩) haft2)
  · obtain ⟨h1, h2, h3, h4⟩ := coper_inv hco
    have hset : ∀ j, ((listed.setIfInBounds i true).getD j false = true) ↔ (j = i ∨ listed.getD j false = true) := by
      intro j
      by_cases hji : j = i
      · subst hji
        simp [Array.getD_eq_getD_getElem?, Array.getElem?_setIfInBounds, hsz, hil]
      · simp [Array.getD_eq_getD_getElem?, Array.getElem?_setIfInBounds, Ne.symm hji, hji]
    -- one of the second list
    have second : Mid P nt dv (fake2 x l) st2 w0 ro0 μ0 (fun j => listed.getD (swp x j) false = true) a w → (swp x i = x + 1 → listed.getD (x + 1) false = true) → (i = x + 1 ∨ listed.getD (x + 1) false = true) → wpOp P ops Q i K a w := by
      intro hm hex hy
      have hk := fake2_at hx hao
      refine hm.goAt hk2 hl2 ho hk h1 h2 h3 h4 (by rw [swp_swp]; exact hSi) (fun j hj => ?_) fun a w hmid => hK a w (.inr ⟨hmid.congr (fun j o' hj => ?_) haft2, (hset _).mpr (hy.imp Eq.symm id)⟩)
      · have hin : ∀ j ∈ ao.after.map (swp x), listed.getD (swp x j) false = true := by
          intro j hj
          obtain ⟨j0, hj0, rfl⟩ := List.mem_map.mp hj
          rw [swp_swp]; exact haf j0 hj0
        simp only at hj
        split at hj
        · rename_i he
          rcases List.mem_cons.mp hj with rfl | hj
          · rw [swp_x]; exact hex he
          · exact hin j hj
        · exact hin j hj
      · rw [hset, ← swp_iff]
    rcases hI with ⟨hm, hxy⟩ | ⟨hm, hy⟩
    · by_cases hc2 : i = x + 1 ∧ ¬ (listed.getD x false = true)
      · obtain ⟨rfl, hnx⟩ := hc2
        have hS : ∀ j, listed.getD j false = true → j < x := by
          intro j hj
          have hjl : j < l.length := by
            rw [← hsz]
            rcases Nat.lt_or_ge j listed.size with h | h
            · exact h
            · simp [Array.getD_eq_getD_getElem?, Array.getElem?_eq_none h] at hj
          rcases Nat.lt_trichotomy j x with h | h | h
          · exact h
          · subst h; exact absurd hj hnx
          · rcases Nat.lt_or_ge (x + 1) j with h' | h'
            · have hoj := List.getElem?_eq_getElem hjl
              have hd := hm.down j _ (fake1_at hoj) hj x (by have := hdep j _ h' hoj; split <;> simp [this])
              exact absurd hd hnx
            · obtain rfl : j = x + 1 := by omega
              exact absurd hj hSi
        have hm2 : Mid P nt dv (fake2 x l) st2 w0 ro0 μ0 (fun i => listed.getD i false = true) a w := hm.turn hl1 (x := x) (by rw [fake2_length]; omega) (fun j o' hj ho' => by
          have hjl : j < l.length := by omega
          obtain ⟨s1, s2⟩ := same j _ hj (List.getElem?_eq_getElem hjl)
          rw [ho'] at s2; cases s2
          exact ⟨_, s1, rfl, rfl, fun _ h => h⟩) hst hS
        refine second (hm2.congr (fun j o' hj => ?_) haft2) (fun he => absurd he (by rw [swp_y]; omega)) (.inl rfl)
        by_cases hjx : j < x
        · rw [swp_lt hjx]
        · refine ⟨fun h => absurd (hS _ h) ?_, fun h => absurd (hS _ h) hjx⟩
          unfold swp; split <;> (try split) <;> omega
      · have hk := fake1_at (x := x) hao
        refine hm.goAt hk1 hl1 ho hk (by split <;> exact h1) (by split <;> exact h2) (by split <;> exact h3) h4 hSi (fun j hj => ?_) fun a w hmid => hK a w (.inl ⟨hmid.congr (fun j o' hj => hset j) haft1, fun hh => ?_⟩)
        · split at hj
          · rename_i he
            rcases List.mem_cons.mp hj with rfl | hj
            · by_cases hl : listed.getD j false = true
              · exact hl
              · exact absurd ⟨he, hl⟩ hc2
            · exact haf j hj
          · exact haf j hj
        · rw [hset] at hh ⊢
          rcases hh with hh | hh
          · by_cases hl : listed.getD x false = true
            · exact .inr hl
            · exact absurd ⟨hh.symm, hl⟩ hc2
          · exact .inr (hxy hh)
    · exact second hm (fun _ => hy) (.inr hy)

section
variable {P : Program} {ks : Keeps} {nt : Nat} {k : List AItem} {T : Env} {H : AHeap} {K : Env → AHeap → Prop}
theorem Mid.end_ {dv : List Deferred} {ms : List Nat} {l : List AOper} {st : Nat → Env × AHeap} {n : Nat} (hn : n = l.length) (hl : Line P ms l st l.length) (h0' : st 0 = (T, H)) {w w1 : World} {ro : Nat → Prop} {μ : Mu} {a1 : Act} (hmid : Mid P nt dv l st w ro μ (fun i => i < n) a1 w1) :
    ∃ ro1 μ1, Good P w1 ro1 μ1 (st l.length).2 ∧ TR P w1 ro1 μ1 (st l.length).1 a1.tmps ∧ a1.tmps.size = nt ∧ a1.defers = dv ∧ Out w ro μ H w1 ro1 μ1 (st l.length).2 := by
  subst hn
  obtain ⟨hd1, p, q, ro1, μ1, hp, hq, hE, hW, hg1, hT1, hs1, hdf1, hout1⟩ := hmid
  have hH : (st l.length).2 = (st p).2 := hl.heap' hp (Nat.le_refl _) fun i o h1 h2 ho => by
    cases hqo : o.op.quiet with
    | true => rfl
    | false => have := (hE i o ho hqo).mp h2; omega
  have hTT : TR P w1 ro1 μ1 (st l.length).1 a1.tmps := ⟨fun s v hv => hT1 s v (by
    rw [← hl.get' (s := s) (hq s) (Nat.le_refl _) fun i o h1 h2 ho hds => by have := (hW i o s ho hds).mp h2; omega]
    exact hv), hg1.glob⟩
  rw [← hH] at hg1 hout1
  rw [h0'] at hout1
  exact ⟨ro1, μ1, hg1, hTT, hs1, hdf1, hout1⟩

/-- Two neighbours of any order: all but they are bound. -/
def okTwo (x : Nat) (l : List AOper) : Bool :=
  Nat.blt (x + 1) l.length && (l.drop (x + 2)).all (fun o => o.after.contains x) && (l.take x).all (fun o => o.op.quiet) && okDraw (fake1 x l) (aclos (fake1 x l) []) && okDraw (fake2 x l) (aclos (fake2 x l) [])
theorem Runs.two {l : List AOper} {kl : List Nat} {x : Nat} (hm : P.follows .mixedOrders = true) (hok : okTwo x l = true)
    (h1 : DrawRun P (aclos (fake1 x l) []) 0 (fake1 x l) [] [] T H fun T' H' => Runs P ks nt k (T'.keep kl) H' K) (h2 : DrawRun P (aclos (fake2 x l) []) 0 (fake2 x l) [] [] T H fun T' H' => Runs P ks nt k (T'.keep kl) H' K) : Runs P ks nt (.code (.region true l kl) :: k) T H K := by
  obtain ⟨st1, hl1, h01, hfin1⟩ := h1.line
  obtain ⟨st2, hl2, h02, hfin2⟩ := h2.line
  simp only [okTwo, Bool.and_eq_true] at hok
  obtain ⟨⟨⟨⟨hx, hdep⟩, hpre⟩, hk1⟩, hk2⟩ := hok
  have hx : x + 1 < l.length := by rw [Nat.blt_eq] at hx; exact hx
  intro items hc w ro μ a hg hT hs hd b cs
  obtain ⟨i, r, rfl, g1, g2⟩ := cis_cons hc
  obtain ⟨c, rfl, h3⟩ := ci_code g1
  obtain ⟨id, ops, rfl, h4, rfl⟩ := ccode_inv h3
  obtain ⟨hlen, _⟩ := copers_at h4
  have hlen' : ops.size = l.length := by rw [← hlen]; simp
  have hwp : (Code.region id ops true).wp P (fun e a' w' => e = .normal ∧ (Mid P nt [] (fake1 x l) st1 w ro μ (fun i => i < l.length) a' w' ∨ Mid P nt [] (fake2 x l) st2 w ro μ (fun i => i < l.length) a' w')) a w := by
    have hfalse : ∀ i, ¬ ((Array.replicate ops.size false).getD i false = true) := by
      intro i hi
      simp only [Array.getD_eq_getD_getElem?, Array.getElem?_replicate] at hi
      split at hi <;> simp at hi
    refine wp_region_any hm (draw_two h4 hx (fun j o hj ho => ?_) (fun j o hj ho => ?_) hk1 hk2 hl1 hl2 (h01.trans h02.symm) (fun a w h => ⟨rfl, .inl h⟩) (fun a w h => ⟨rfl, .inr h⟩) ops.size _ (List.range l.length) a _ (by simp [hlen']) (fun i hi _ => List.mem_range.mpr hi) (by simp [hlen']) ?_ (hfalse _))
    · have := List.all_eq_true.mp hdep o (List.mem_of_getElem? (i := j - (x + 2)) (by rw [List.getElem?_drop, show x + 2 + (j - (x + 2)) = j by omega]; exact ho))
      simpa using this
    · exact List.all_eq_true.mp hpre o (List.mem_of_getElem? (i := j) (by rw [List.getElem?_take, if_pos hj]; exact ho))
    have hx : Ext w ro μ { w with drawn := w.drawn + 1 } ro μ := ⟨fun _ h => h, fun _ _ _ h => h, fun _ _ => rfl, fun _ c _ fr h => ⟨c, fr, h, rfl⟩⟩
    refine ⟨fun i o ho hi => absurd hi (hfalse i), 0, fun _ => 0, ro, μ, Nat.zero_le _, fun _ => Nat.zero_le _, fun e o _ _ => ⟨fun hi => absurd hi (hfalse e), fun h => absurd h (Nat.not_lt_zero _)⟩, fun e o s _ _ => ⟨fun hi => absurd hi (hfalse e), fun h => absurd h (Nat.not_lt_zero _)⟩, ?_, ?_, hs, hd, ?_⟩
    · rw [h01]; exact hg.drawn _
    · intro s v hv
      rw [h01] at hv
      exact (hT.val s v hv).ext hx _ _
    · rw [h01]; exact Out.drawn _ _ _ _ _
  obtain ⟨e, a1, w1, ⟨he, hmid⟩, harr⟩ := hwp b r cs
  subst he
  rcases hmid with hmid | hmid
  · obtain ⟨ro1, μ1, hg1, hTT, hs1, hdf1, hout1⟩ := Mid.end_ (fake1_length x l).symm hl1 h01 hmid
    obtain ⟨a', w', todo', hp', hsteps⟩ := hfin1 r g2 w1 ro1 μ1 a1 hg1 (hTT.keep _) hs1 hdf1 b cs
    exact ⟨a', w', todo', hp'.trans hout1, Steps.trans harr hsteps⟩
  · obtain ⟨ro1, μ1, hg1, hTT, hs1, hdf1, hout1⟩ := Mid.end_ (fake2_length x l).symm hl2 h02 hmid
    obtain ⟨a', w', todo', hp', hsteps⟩ := hfin2 r g2 w1 ro1 μ1 a1 hg1 (hTT.keep _) hs1 hdf1 b cs
    exact ⟨a', w', todo', hp'.trans hout1, Steps.trans harr hsteps⟩
end
end Go.Am
