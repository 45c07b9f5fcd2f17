/- A call that is handed no block: it runs so ahead of any blocks, changes none of them, and what it tells is looked at only. -/
import Derived.Test.YtilfjbbfabcdlaaGreatDoorAm31
set_option linter.unusedVariables false
set_option linter.unusedSimpArgs false
namespace Go.Am
open Go.RowKit

/-! ### Values that name no block -/
mutual
def AVal.pure : AVal → Bool
  | .ptr _ _ => false
  | .sl _ _ _ _ => false
  | .map _ => false
  | .rop cs => AVal.pures cs
  | .ros cs _ => AVal.pures cs
  | .fn _ a b => AVal.pures a && AVal.pures b
  | .ifc _ v => AVal.pure v
  | .agg cs => AVal.pures cs
  | .tup cs => AVal.pures cs
  | _ => true
def AVal.pures : List AVal → Bool
  | [] => true
  | a :: r => AVal.pure a && AVal.pures r
end
mutual
theorem VR.pure {P : Program} {w : World} {ro : Nat → Prop} {μ μ' : Mu} : ∀ (a : AVal) (v : Value), a.pure = true → VR P w ro μ a v → VR P w ro μ' a v
  | .bool b, v => fun _ h => h | .int k n, v => fun _ h => h | .flt k n, v => fun _ h => h | .str s, v => fun _ h => h
  | .nilp, v => fun _ h => h | .nils, v => fun _ h => h | .nilm, v => fun _ h => h | .nilf, v => fun _ h => h | .nili, v => fun _ h => h
  | .ptr i off, v => fun hp => by simp [AVal.pure] at hp
  | .sl i off n cap, v => fun hp => by simp [AVal.pure] at hp
  | .map i, v => fun hp => by simp [AVal.pure] at hp
  | .rop cs, v => fun hp ⟨b, o, sp, hv, hr, hc⟩ => ⟨b, o, sp, hv, hr, VRat.pure cs b o (by simpa [AVal.pure] using hp) hc⟩
  | .ros cs n, v => fun hp ⟨b, o, k, sp, hv, hk, hr, hc⟩ => ⟨b, o, k, sp, hv, hk, hr, VRat.pure cs b o (by simpa [AVal.pure] using hp) hc⟩
  | .fn f first cap, v => fun hp ⟨fs, cs, hv, h1, h2⟩ => by
      simp only [AVal.pure, Bool.and_eq_true] at hp
      exact ⟨fs, cs, hv, VRs.pure first _ hp.1 h1, VRs.pure cap _ hp.2 h2⟩
  | .ifc t x, v => fun hp ⟨u, hv, hx⟩ => ⟨u, hv, VR.pure x u (by simpa [AVal.pure] using hp) hx⟩
  | .agg cs, v => fun hp ⟨vs, hv, hc⟩ => ⟨vs, hv, VRs.pure cs _ (by simpa [AVal.pure] using hp) hc⟩
  | .tup cs, v => fun hp ⟨vs, hv, hc⟩ => ⟨vs, hv, VRs.pure cs _ (by simpa [AVal.pure] using hp) hc⟩
  | .nan k, v => fun _ h => h
theorem VRs.pure {P : Program} {w : World} {ro : Nat → Prop} {μ μ' : Mu} : ∀ (as : List AVal) (vs : List Value), AVal.pures as = true → VRs P w ro μ as vs → VRs P w ro μ' as vs
  | [], vs => fun _ h => h
  | c :: cs, vs => fun hp ⟨u, r, hv, hu, hr⟩ => by
      simp only [AVal.pures, Bool.and_eq_true] at hp
      exact ⟨u, r, hv, VR.pure c u hp.1 hu, VRs.pure cs r hp.2 hr⟩
theorem VRat.pure {P : Program} {w : World} {ro : Nat → Prop} {μ μ' : Mu} : ∀ (cs : List AVal) (b o : Nat), AVal.pures cs = true → VRat P w ro μ cs b o → VRat P w ro μ' cs b o
  | [], _, _ => fun _ _ => True.intro
  | c :: cs, b, o => fun hp ⟨⟨u, hc, hu⟩, hr⟩ => by
      simp only [AVal.pures, Bool.and_eq_true] at hp
      exact ⟨⟨u, hc, VR.pure c u hp.1 hu⟩, VRat.pure cs b (o + 1) hp.2 hr⟩
end

/-! ### What has been written, looked at only from now on -/
def freezeL (f : AVal → Option AVal) : List AVal → Option (List AVal)
  | [] => some []
  | a :: r => match f a, freezeL f r with
    | some b, some s => some (b :: s)
    | _, _ => none
def freeze (sz : TypeId → Nat) (H : AHeap) : Nat → AVal → Option AVal
  | 0, _ => none
  | n + 1, a => match a with
    | .ptr id off => match H.get id with
      | some (.cells e cs) => match freezeL (freeze sz H n) (cs.drop off) with
        | some ds => some (.rop ds)
        | none => none
      | _ => none
    | .sl id off len _ => match H.get id with
      | some (.cells e cs) => match freezeL (freeze sz H n) ((cs.drop off).take (len * sz e)) with
        | some ds => some (.ros ds len)
        | none => none
      | _ => none
    | .map _ => none
    | .rop cs => match freezeL (freeze sz H n) cs with
      | some ds => some (.rop ds)
      | none => none
    | .ros cs len => match freezeL (freeze sz H n) cs with
      | some ds => some (.ros ds len)
      | none => none
    | .fn f x y => match freezeL (freeze sz H n) x, freezeL (freeze sz H n) y with
      | some x', some y' => some (.fn f x' y')
      | _, _ => none
    | .ifc t v => match freeze sz H n v with
      | some u => some (.ifc t u)
      | none => none
    | .agg cs => match freezeL (freeze sz H n) cs with
      | some ds => some (.agg ds)
      | none => none
    | .tup cs => match freezeL (freeze sz H n) cs with
      | some ds => some (.tup ds)
      | none => none
    | a => some a

theorem freezeL_get {f : AVal → Option AVal} : ∀ {cs ds : List AVal}, freezeL f cs = some ds → ds.length = cs.length ∧ ∀ (i : Nat) (a : AVal), ds[i]? = some a → ∃ c, cs[i]? = some c ∧ f c = some a
  | [], ds, h => by simp [freezeL] at h; subst h; exact ⟨rfl, fun i a hi => by simp at hi⟩
  | c :: cs, ds, h => by
    simp only [freezeL] at h
    split at h
    · rename_i b s hb hs
      injection h with h; subst h
      obtain ⟨h1, h2⟩ := freezeL_get hs
      refine ⟨by simp [h1], fun i a hi => ?_⟩
      cases i with
      | zero => simp at hi; subst hi; exact ⟨c, rfl, hb⟩
      | succ i => obtain ⟨d, hd, hf⟩ := h2 i a (by simpa using hi); exact ⟨d, by simpa using hd, hf⟩
    · cases h

theorem VRs.freeze {P : Program} {w : World} {ro ro' : Nat → Prop} {μ μ' : Mu} {f : AVal → Option AVal} (ih : ∀ (a b : AVal) (v : Value), f a = some b → VR P w ro μ a v → VR P w ro' μ' b v) {cs ds : List AVal} {vs : List Value} (hf : freezeL f cs = some ds) (h : VRs P w ro μ cs vs) : VRs P w ro' μ' ds vs := by
  obtain ⟨h1, h2⟩ := freezeL_get hf
  rw [VRs_iff] at h ⊢
  refine ⟨h1.trans h.1, fun i a v ha hv => ?_⟩
  obtain ⟨c, hc, hfc⟩ := h2 i a ha
  exact ih c a v hfc (h.2 i c v hc hv)
theorem VRat.freeze {P : Program} {w : World} {ro ro' : Nat → Prop} {μ μ' : Mu} {f : AVal → Option AVal} (ih : ∀ (a b : AVal) (v : Value), f a = some b → VR P w ro μ a v → VR P w ro' μ' b v) {cs ds : List AVal} {b o : Nat} (hf : freezeL f cs = some ds) (h : VRat P w ro μ cs b o) : VRat P w ro' μ' ds b o := by
  obtain ⟨h1, h2⟩ := freezeL_get hf
  rw [VRat_iff] at h ⊢
  intro i a ha
  obtain ⟨c, hc, hfc⟩ := h2 i a ha
  obtain ⟨u, hu, hv⟩ := h i c hc
  exact ⟨u, hu, ih c a u hfc hv⟩
theorem freezeL_ne {f : AVal → Option AVal} {cs ds : List AVal} (h : freezeL f cs = some ds) (hne : ds ≠ []) : cs ≠ [] := by
  intro e; subst e; simp [freezeL] at h; exact hne h

theorem freeze_sound {P : Program} {w : World} {ro ro' : Nat → Prop} {μ μ' : Mu} {H : AHeap} {sz : TypeId → Nat} (hg : Good P w ro μ H) (h1 : ∀ b, ro b → ro' b) (h2 : ∀ b, Lv μ H b → ro' b) : ∀ (n : Nat) (a b : AVal) (v : Value), freeze sz H n a = some b → VR P w ro μ a v → VR P w ro' μ' b v
  | 0, a, b, v, h, _ => by cases h
  | n + 1, a, b, v, h, hv => by
    have ih := freeze_sound (sz := sz) (μ' := μ') hg h1 h2 n
    cases a <;> simp only [freeze] at h
    case bool => injection h with h; subst h; exact hv
    case int => injection h with h; subst h; exact hv
    case flt => injection h with h; subst h; exact hv
    case str => injection h with h; subst h; exact hv
    case nilp => injection h with h; subst h; exact hv
    case nils => injection h with h; subst h; exact hv
    case nilm => injection h with h; subst h; exact hv
    case nilf => injection h with h; subst h; exact hv
    case nili => injection h with h; subst h; exact hv
    case nan => injection h with h; subst h; exact hv
    case map => cases h
    case ptr id off =>
      split at h
      · rename_i e cs hid
        split at h
        · rename_i ds hd
          injection h with h; subst h
          obtain ⟨blk, base, hm, rfl⟩ := hv
          obtain ⟨c, fr, hb, _, _, hat⟩ := hg.blk id _ blk base hid hm
          exact ⟨blk, base + off, none, rfl, fun _ => ⟨h2 _ ⟨id, _, base, hid, hm⟩, rfl⟩, VRat.freeze ih hd (hat.drop off)⟩
        · cases h
      · cases h
    case sl id off len cap =>
      split at h
      · rename_i e cs hid
        split at h
        · rename_i ds hd
          injection h with h; subst h
          obtain ⟨blk, base, c0, e0, fr0, k, hm, _, rfl, hk, _⟩ := hv
          obtain ⟨c, fr, hb, _, _, hat⟩ := hg.blk id _ blk base hid hm
          exact ⟨blk, base + off, k, none, rfl, hk, fun _ => ⟨h2 _ ⟨id, _, base, hid, hm⟩, rfl⟩, VRat.freeze ih hd ((hat.drop off).take _)⟩
        · cases h
      · cases h
    case rop cs =>
      split at h
      · rename_i ds hd
        injection h with h; subst h
        obtain ⟨blk, o, sp, rfl, hr, hat⟩ := hv
        exact ⟨blk, o, sp, rfl, fun hne => ⟨h1 _ (hr (freezeL_ne hd hne)).1, (hr (freezeL_ne hd hne)).2⟩, VRat.freeze ih hd hat⟩
      · cases h
    case ros cs len =>
      split at h
      · rename_i ds hd
        injection h with h; subst h
        obtain ⟨blk, o, k, sp, rfl, hk, hr, hat⟩ := hv
        exact ⟨blk, o, k, sp, rfl, hk, fun hne => ⟨h1 _ (hr (freezeL_ne hd hne)).1, (hr (freezeL_ne hd hne)).2⟩, VRat.freeze ih hd hat⟩
      · cases h
    case fn f x y =>
      split at h
      · rename_i x' y' hx hy
        injection h with h; subst h
        obtain ⟨fs, cs, rfl, v1, v2⟩ := hv
        exact ⟨fs, cs, rfl, VRs.freeze ih hx v1, VRs.freeze ih hy v2⟩
      · cases h
    case ifc t x =>
      split at h
      · rename_i u hu
        injection h with h; subst h
        obtain ⟨z, rfl, hz⟩ := hv
        exact ⟨z, rfl, ih _ _ _ hu hz⟩
      · cases h
    case agg cs =>
      split at h
      · rename_i ds hd
        injection h with h; subst h
        obtain ⟨vs, rfl, hz⟩ := hv
        exact ⟨vs, rfl, VRs.freeze ih hd hz⟩
      · cases h
    case tup cs =>
      split at h
      · rename_i ds hd
        injection h with h; subst h
        obtain ⟨vs, rfl, hz⟩ := hv
        exact ⟨vs, rfl, VRs.freeze ih hd hz⟩
      · cases h

/-- A call that is handed no block, ahead of any blocks. -/
theorem CallEv.closed {P : Program} {f : FuncId} {args : List AVal} {K K' : AVal → Prop} {sz : TypeId → Nat} (hp : AVal.pures args = true) (h : CallEv P f args AHeap.empty fun r H1 => ∃ n r', freeze sz H1 n r = some r' ∧ K r') (H : AHeap) : CallEv P f args H fun r H' => K r ∧ H' = H := by
  intro w ro μ argv hg ha
  have hlow : ∀ b, ¬ Lv (fun _ => none) AHeap.empty b := fun b ⟨id, k, base, h, _⟩ => by simp [AHeap.get, AHeap.empty] at h
  have hg0 : Good P w ro (fun _ => none) AHeap.empty :=
    ⟨fun id k b base h => (by simp [AHeap.get, AHeap.empty] at h), fun id b base h => (by cases h), fun id k b base h => (by simp [AHeap.get, AHeap.empty] at h), fun i j ki kj b oi oj h => (by simp [AHeap.get, AHeap.empty] at h), fun _ _ => rfl, hg.rolt, hg.glob⟩
  refine (h w ro (fun _ => none) argv hg0 (VRs.pure _ _ hp ha)).mono fun e w' ⟨v', r, H1, ro1, μ1, he, ⟨n, r', hfr, hk⟩, hv, hg1, ho⟩ => ?_
  have hsame : ∀ b : Nat, b < w.heap.size → w'.heap[b]? = w.heap[b]? := fun b hb => ho.keep.same b hb (hlow b)
  have hro : ∀ b, (ro1 b ∨ Lv μ1 H1 b) → ro b ∨ w.heap.size ≤ b := by
    rintro b (hb | hb)
    · rcases ho.roNew b hb with x | x | x
      · exact .inl x
      · exact absurd x (hlow b)
      · exact .inr x
    · rcases ho.lv b hb with x | x
      · exact absurd x (hlow b)
      · exact .inr x
  have hext : Ext w ro μ w' (fun b => ro1 b ∨ Lv μ1 H1 b) μ := ⟨fun b hb => .inl (ho.roLe b hb), fun _ _ _ h => h, fun b hb => hsame b (hg.rolt b hb), ho.keep.shape⟩
  refine ⟨v', r', H, fun b => ro1 b ∨ Lv μ1 H1 b, μ, he, ⟨hk, rfl⟩, ?_, ?_, ?_⟩
  · exact freeze_sound hg1 (fun b hb => .inl hb) (fun b hb => .inr hb) n r r' v' hfr hv
  · refine ⟨fun id k b base h1 h2 => BR.ext hext (hsame b (hg.lt _ _ _ h2)) (hg.blk id k b base h1 h2), fun id b base h => Nat.lt_of_lt_of_le (hg.lt _ _ _ h) ho.keep.size, fun id k b base h1 h2 hb => ?_, hg.inj, hg.new, ?_, hg.glob.ext hext⟩
    · rcases hro b hb with x | x
      · exact hg.nro id k b base h1 h2 x
      · exact absurd (hg.lt _ _ _ h2) (by omega)
    · rintro b (hb | ⟨id, k, base, h1, h2⟩)
      · exact hg1.rolt b hb
      · exact hg1.lt _ _ _ h2
  · exact ⟨Nat.le_refl _, fun _ _ => rfl, fun b hb => .inl (ho.roLe b hb), fun b hb => (hro b hb).elim .inl (fun x => .inr (.inr x)), fun b hb => .inl hb,
      ⟨ho.keep.size, fun b hb _ => hsame b hb, ho.keep.shape, ho.keep.os, ho.keep.tape, ho.keep.output⟩⟩

theorem Det.closed {P : Program} {f : FuncId} {args : List AVal} {r r' : AVal} {H1 : AHeap} {sz : TypeId → Nat} {n : Nat} (hp : AVal.pures args = true) (h : Det P f args AHeap.empty r H1) (hf : freeze sz H1 n r = some r') (H : AHeap) : Det P f args H r' H :=
  ⟨h.1, CallEv.closed (K := fun x => x = r') (K' := fun _ => True) (sz := sz) hp (h.2.mono fun a b ⟨e1, e2⟩ => ⟨n, r', by rw [e1, e2]; exact hf, rfl⟩) H⟩

/-- The evaluator's word, ahead of any blocks. -/
def aclosed (tab : Tab) (orc : Orc) (steps deep : Nat) (sz : TypeId → Nat) (f : FuncId) (args : List AVal) : Option AVal :=
  match AVal.pures args with
  | true => match acall tab orc steps deep f args AHeap.empty with
    | some (r, H1) => freeze sz H1 deep r
    | none => none
  | false => none
theorem aclosed_sound {P : Program} {tab : Tab} {orc : Orc} (hm : P.follows .mixedOrders = true) (ht : tab.Ok P) (ho : orc.Ok P) {steps deep : Nat} {sz : TypeId → Nat} {f : FuncId} {args : List AVal} {r : AVal} (h : aclosed tab orc steps deep sz f args = some r) (H : AHeap) : Det P f args H r H := by
  unfold aclosed at h
  split at h
  · rename_i hp
    split at h
    · rename_i r0 H1 hr
      exact Det.closed hp (acall_sound hm ht ho _ _ _ _ _ _ _ hr) h H
    · cases h
  · cases h
theorem Det.dcall {P : Program} {f : FuncId} {args : List AVal} {r : AVal} {H H' : AHeap} (h : Det P f args H r H') : DCall P f args H fun a H1 => a = r ∧ H1 = H' := ⟨r, H', ⟨rfl, rfl⟩, h⟩
/-- A contract of a call that is handed no block, ahead of any blocks. -/
theorem DCall.closed {P : Program} {f : FuncId} {args : List AVal} {Q : AVal → AHeap → Prop} {Q' : AVal → Prop} {sz : TypeId → Nat} (hp : AVal.pures args = true) (h : DCall P f args AHeap.empty Q) (hq : ∀ r H1, Q r H1 → ∃ n r', freeze sz H1 n r = some r' ∧ Q' r') (H : AHeap) : DCall P f args H fun r H' => Q' r ∧ H' = H := by
  obtain ⟨r, H1, q, d⟩ := h
  obtain ⟨n, r', hf, hq'⟩ := hq r H1 q
  exact ⟨r', H, ⟨hq', rfl⟩, Det.closed hp d hf H⟩
end Go.Am
